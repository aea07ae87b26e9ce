/-
  Texts that were joined: PanD, KS, PanE, PanF, PanG, PanH, PanI, PanJ, PanK, PanL. Conditions: what each theorem names.
-/
import Derived.Test.YtigoimhndlnhfaaGreatE3
import Derived.Recover
set_option linter.unusedSectionVars false
namespace Go.Proofs.YtigoimhndlnhfaaGreat
open Go.RowKit
theorem Ctx.Ok.DY {K:Ctx}(hK:K.Ok){w:World}{p d:Nat}{ov:Bool}(h:PW K w p d ov):K.B≤w.heap.size:=by have:=hK.le;have:=h.av.lt;omega
theorem pt (ws:List Wd)(s:List Nat)(p:Nat):bE ws s p≠ .out:=by unfold bE;split<;>simp
theorem nj (p d:Nat):cW p d≠ .out:=by unfold cW;split<;>simp
theorem sO (ws:List Wd)(p:Nat):dW ws p≠ .out:=by unfold dW;split<;>simp
theorem iE {α:Type}(ws:List Wd)(one:Nat→Nat→Rs α)(r:List (Nat→Nat→Rs α))(first:Bool)(p d:Nat):bn ws (one::r) first p d=(if first=true then Rs.ok () p else bE ws [44] p).bind fun _ p=>(one p d).bind fun x p=>(bn ws r false p d).bind fun xs p=> .ok (x::xs) p:=rfl
theorem PW.deep {K:Ctx}{w:World}{p d:Nat}(h:PW K w p d false):d≤64:=by
 rcases h.dU with h|⟨h,-⟩
 ·exact h
 ·cases h
theorem tX.mono {α:Type}{K:Ctx}{h d:Nat}{w w':World}{r:Rs α}{ok1 ok2:α→Value→World→Prop}{e:Ending}(hr:tX K h w d r ok1 e w')(hm:∀a v w',ok1 a v w'→ok2 a v w'):tX K h w d r ok2 e w':=by
 refine⟨hr.1,?_⟩
 cases r with
 |out=>exact hr.2
 |bad p o=>exact hr.2
 |ok a p=>obtain⟨v,h1,h2,h3⟩:=hr.2;exact⟨v,h1,h2,hm _ _ _ h3⟩
theorem jC {α:Type}(K:Ctx)(hK:K.Ok)(h0:Nat)(aY:List (Nat→Nat→Rs α))(fs:List (Nat × List Value))(AP:Option Addr)(cP:Nat)(M:List α→World→Prop)(p d:Nat)(w:World)(h:PW K w p d false)(hh0:h0≤w.heap.size)
  (hlen:fs.length=aY.length) (hn:aY.length≤10) (hM0:M [] w) (hMs:∀(xs:List α) (W W':World) (p d:Nat),M xs W→PW K W p d false→Fz W.heap.size K.g W W'→M xs W')
  (hMr:∀(xs:List α) (W:World) (i f:Nat) (cp:List Value),M xs W→fs[i]? =some (f,cp)→∃ad,AP=some ad∧W.cell? (ad.add i)=some (.func (.func f) #[] cp.toArray))
  (heg:∀(i f:Nat) (cp:List Value),fs[i]? =some (f,cp)→∀args w,(callFunc f args).run Tryz.prog w= .ok (.enter f args) w)
  (hone:∀(i f:Nat) (cp:List Value) (one:Nat→Nat→Rs α),fs[i]? =some (f,cp)→aY[i]? =some one→∀(xs:List α) (W:World) (p:Nat),xs.length=i→PW K W p (d+1) false→h0≤W.heap.size→M xs W→one p (d+1)≠ .out→Calls Tryz.prog f cp.toArray W (tX K h0 W (d+1) (one p (d+1)) fun x _ W'=>M (xs++[x]) W'))
  (hne:aW K.ws aY p d≠ .out):
  Calls Tryz.prog 166 #[.pointer (some ⟨K.g,0,none⟩), .slice AP fs.length cP] w (tX K h0 w d (aW K.ws aY p d) fun xs _ W'=>M xs W'):=by
 have ae:=Fz.refl h0 K.g w;have pw:=h;have e99:K.g=K.g:=rfl;have hlt:=h.av.lt;have hle:=hK.le;obtain⟨R,hR⟩:∃R,R=aW K.ws aY p d:=⟨_,rfl⟩;rw[←hR] at hne⊢;have hRu:R=(bE K.ws [40] p).bind fun _ p=>(cW p d).bind fun _ p=>(bn K.ws aY true p (d+1)).bind fun xs p=>(bE K.ws [41] p).bind fun _ p=> .ok xs p:=hR;clear hR;have hsg:=nv K hK p d [40] w h (by decide);refine Zs 33 Tryz.func166 ?_;refine ao ?_;refine Zm ?_;rcases Rs.dy (pt K.ws [40] p) with ⟨p1,o1,hr1⟩|⟨u1,p1,hr1⟩
 ·rw[hr1] at hsg hRu
  refine Seq.cS (Ze Tryz.func208) rfl hsg ?_;rintro e w6 ⟨hf,rfl,d6,hp6⟩;refine⟨_,rfl,fun a ha=>⟨ha.defers,?_⟩⟩;rw[hRu];exact⟨hf.less hh0,rfl,d6,hp6⟩
 rw[hr1] at hsg hRu;replace hRu:R=(cW p1 d).bind fun _ p=>(bn K.ws aY true p (d+1)).bind fun xs p=>(bE K.ws [41] p).bind fun _ p=> .ok xs p:=hRu;refine Zc (Ze Tryz.func208) (hsg) ?_;rintro e w5 ⟨hf5,v5,rfl,pw,-⟩;refine⟨_,rfl,?_⟩;replace ae:=ae.call hf5 hh0;have hs5:=ae.size;have hM5:=hMs _ _ _ _ _ hM0 h hf5;have hen:=nk K hK p1 d w5 pw;have pwo:=pw;refine eh 0 1 (aG ?_);refine Zm ?_;rcases Rs.dy (nj p1 d) with ⟨p2,o2,hr2⟩|⟨u2,p2,hr2⟩
 ·rw[hr2] at hen hRu
  refine Seq.cS (Ze Tryz.func209) rfl hen ?_;rintro e w6 ⟨hf,rfl,d6,hp6⟩;refine⟨_,rfl,fun a ha=>⟨ha.defers,?_⟩⟩;rw[hRu];exact⟨ae.call hf hh0,rfl,d6,hp6⟩
 rw[hr2] at hen hRu;replace hRu:R=(bn K.ws aY true p2 (d+1)).bind fun xs p=>(bE K.ws [41] p).bind fun _ p=> .ok xs p:=hRu;refine Zc (Ze Tryz.func209) (hen) ?_;rintro e w6 ⟨hf6,v6,rfl,pw,-⟩;refine⟨_,rfl,?_⟩;replace ae:=ae.call hf6 hh0;have hs6:=ae.size;have hM6:=hMs _ _ _ _ _ hM5 pwo hf6;obtain⟨R0,hR0⟩:∃R0,R0=bn K.ws aY true p2 (d+1):=⟨_,rfl⟩;rw[←hR0] at hRu;have hne0:R0≠ .out:=Rs.fa (by rw[←hRu];exact hne);refine eh 0 1 (aJ (ao ?_));refine Zm ?_;refine Zv (aa.len rfl rfl Tryz.underlying225) ?_;refine Zm ?_;refine aU 0 1 10 11 12 (Zt (Cd.block ?_))
 refine Cd.loop (σ:=Nat × Nat × List α) (fun s=>[(0, .pointer (some ⟨K.g,0,none⟩)),(10, .slice AP fs.length cP),(11, .int .i64 (fs.length:Int)),(12, .int .i64 (s.1:Int))])
  (fun s wr=>s.1≤aY.length∧PW K wr s.2.1 (d+1) false∧Fz h0 K.g w wr∧M s.2.2 wr∧s.2.2.length=s.1∧R0=(bn K.ws (aY.drop s.1) (decide (s.1=0)) s.2.1 (d+1)).bind fun ys p=> .ok (s.2.2++ys) p)
  (fun s=>aY.length-s.1) (0,p2,[]) ⟨Nat.zero_le _,pw,ae,hM6,rfl,by rw[hR0];show _=(bn K.ws aY true p2 (d+1)).bind _;cases bn K.ws aY true p2 (d+1)<;>rfl⟩ ⟨rfl,rfl,rfl,rfl,trivial⟩ ?_
 clear ae pw hM6 hM5 hM0 hR0;rintro⟨i,pi,xs⟩ wr ⟨hi,pw,ae,hM,hxl,hinv⟩;dsimp only at hi pw hM hxl hinv⊢;have hsr:=ae.size;refine ao ?_;refine Zv (aa.lss rfl rfl rfl) ?_;refine aU 0 10 11 12 13 (aJ ?_);refine Cd.au rfl (fun hc=> ?_) (fun hc=> ?_)
 ·obtain⟨one,ho⟩:∃one,aY[i]? =some one:=⟨_,List.getElem?_eq_getElem (by omega)⟩
  obtain⟨⟨f,cp⟩,hfc⟩:∃f,fs[i]? =some f:=⟨_,List.getElem?_eq_getElem (by omega)⟩;obtain⟨ad,hA,hcl⟩:=hMr xs wr i f cp hM hfc
  have hdr:aY.drop i=one::aY.drop (i+1):=by
   have hlt:=(List.getElem?_eq_some_iff.1 ho).1;rw[List.drop_eq_getElem_cons hlt];rw[List.getElem?_eq_getElem hlt] at ho;injection ho with ho
   rw[ho]
  rw[hdr] at hinv;rw[hA];refine Cd.skip (aJ (Cd.block (ao ?_)));refine Zm ?_;refine Zv (aa.iM rfl rfl rfl Tryz.underlying225 (by kernel_rfl) (j:=i) rfl (by omega)) ?_;refine Zv (aa.iu rfl rfl Tryz.underlying1 rfl hcl) ?_;refine Za ?_;refine Za ?_;refine bb 0 4 5 10 11 12 13 (Zt ?_);refine Cd.lz (σ:=Nat) (fun _=>[(0, .pointer (some ⟨K.g,0,none⟩)),(5, .func (.func f) #[] cp.toArray),(10, .slice (some ad) fs.length cP),(11, .int .i64 (fs.length:Int)),(12, .int .i64 (i:Int))]) (fun pj wj=>PW K wj pj (d+1) false∧Fz h0 K.g w wj∧M xs wj∧R0=(one pj (d+1)).bind fun x p=>(bn K.ws (aY.drop (i+1)) false p (d+1)).bind fun ys p=> .ok (xs++(x::ys)) p) ?_ ?_
  ·skip
   refine ao ?_;refine Zm ?_;refine Zv (aa.gtr rfl rfl rfl) ?_;refine cI 0 4 5 10 11 12 13 18 (Zt ?_);refine Cd.au rfl (fun hc=> ?_) (fun hc=> ?_)
   ·have hinv:R0=(bE K.ws [44] pi).bind fun _ p=>(one p (d+1)).bind fun x p=>(bn K.ws (aY.drop (i+1)) false p (d+1)).bind fun ys p=> .ok (xs++(x::ys)) p:=by
     rw[hinv,iE,decide_eq_false (show¬i=0 by omega),if_neg (by decide)];simp only[Rs.bind_assoc];rfl
    have hsg:=nv K hK pi (d+1) [44] wr pw (by decide);have pwo:=pw;refine Zr ?_;refine Zm ?_;rcases Rs.dy (pt K.ws [44] pi) with ⟨p1,o1,hr1⟩|⟨u1,p1,hr1⟩
    ·rw[hr1] at hsg hinv
     refine Seq.cS (Ze Tryz.func208) rfl hsg ?_;rintro e w7 ⟨hf,rfl,d6,hp6⟩;refine⟨_,rfl,fun a ha=>⟨ha.defers,?_⟩⟩;rw[hRu,hinv];exact⟨ae.call hf hh0,rfl,d6,hp6⟩
    rw[hr1] at hsg hinv;refine Zc (Ze Tryz.func208) (hsg) ?_;rintro e w7 ⟨hf7,v7,rfl,pw,-⟩;refine⟨_,rfl,?_⟩;refine cI 0 4 5 10 11 12 13 18 ?_;exact ab.join p1 ⟨rfl,rfl,rfl,rfl,rfl,trivial⟩ ⟨pw,ae.call hf7 hh0,hMs _ _ _ _ _ hM pwo hf7,hinv⟩
   ·obtain rfl:i=0:=by omega
    refine Cd.skip ?_;refine ab.join pi ⟨rfl,rfl,rfl,rfl,rfl,trivial⟩ ⟨pw,ae,hM,?_⟩;rw[hinv,iE,decide_eq_true rfl,if_pos rfl];simp only[Rs.bind_assoc,Rs.bz]
  clear ae pw hM hinv;rintro pj wj ⟨pw,ae,hM,hinv⟩;have hsj:=ae.size;have hne1:one pj (d+1)≠ .out:=Rs.fa (by rw[←hinv];exact hne0);have hcall:=hone i f cp one hfc ho xs wj pj hxl pw (by omega) hM hne1;refine Zr ?_;refine Zm ?_;rcases Rs.dy hne1 with ⟨p1,o1,hr1⟩|⟨x,p1,hr1⟩
  ·rw[hr1] at hcall hinv
   refine Seq.cS (Enters.value (first:=[]) (cap:=cp) rfl rfl rfl (heg i f cp hfc)) rfl hcall ?_;rintro e w7 ⟨hf,rfl,d6,hp6⟩;refine⟨_,rfl,fun a ha=>⟨ha.defers,?_⟩⟩;rw[hRu,hinv];exact⟨ae.trans hf,rfl,d6,hp6⟩
  rw[hr1] at hcall hinv;refine Seq.call (Enters.value (first:=[]) (cap:=cp) rfl rfl rfl (heg i f cp hfc)) rfl rfl rfl hcall ?_;rintro e w7 ⟨hf7,v7,rfl,pw,hM⟩;refine⟨_,rfl,?_⟩;refine aU 0 5 10 11 12 (ab.aj (ei ?_));refine cH ?_;refine Zm ?_;refine aU 0 5 10 11 12 ?_;refine ab.round (i+1,p1,xs++[x]) ⟨rfl,rfl,rfl,rfl,trivial⟩ ⟨by dsimp only;omega,pw,ae.trans hf7,hM,by dsimp only;rw[List.length_append,hxl];rfl,?_⟩ (by dsimp only;omega);dsimp only;rw[hinv,decide_eq_false (show¬i+1=0 by omega),Rs.bz];simp only[List.append_assoc,List.cons_append,List.nil_append]
 ·obtain rfl:i=aY.length:=by omega
  rw[List.drop_of_length_le (Nat.le_refl _)] at hinv;have hinv:R0= .ok xs pi:=by rw[hinv];unfold bn;rw[Rs.bz,List.append_nil]
  rw[hinv] at hRu;replace hRu:R=(bE K.ws [41] pi).bind fun _ p=> .ok xs p:=hRu;have hsg:=nv K hK pi (d+1) [41] wr pw (by decide);have pwo:=pw;refine Cd.exit (ab.aD (ab.aA (ab.az (aG ?_))));refine Zm ?_;rcases Rs.dy (pt K.ws [41] pi) with ⟨p1,o1,hr1⟩|⟨u1,p1,hr1⟩
  ·rw[hr1] at hsg hRu
   refine Seq.cS (Ze Tryz.func208) rfl hsg ?_;rintro e w7 ⟨hf,rfl,d6,hp6⟩;refine⟨_,rfl,fun a ha=>⟨ha.defers,?_⟩⟩;rw[hRu];exact⟨ae.call hf hh0,rfl,d6,hp6⟩
  rw[hr1] at hsg hRu;refine Zc (Ze Tryz.func208) (hsg) ?_;rintro e w7 ⟨hf7,v7,rfl,pw,-⟩;refine⟨_,rfl,?_⟩;replace ae:=ae.call hf7 hh0;have hM:=hMs _ _ _ _ _ hM pwo hf7;have k99:=pw.av;have hd64:=pw.deep;have loc:=Fz.refl w7.heap.size K.g w7;refine aU 0 10 11 12 13 (ei ?_);refine Zm ?_;refine Zv (aa.nilCheck rfl rfl) ?_;refine Zf 2 Tryz.underlying219 ?_;refine Zv (aa.ag rfl rfl Tryz.underlying3 rfl k99 rfl) ?_;refine Zv (aa.eU rfl rfl rfl (by omega) (by omega)) ?_;refine Zv (aa.nilCheck rfl rfl) ?_;refine Zf 2 Tryz.underlying219 ?_;refine Zq k99 ?_;intro w1 pw1;replace ae:=ae.put k99 pw1 e99;replace loc:=loc.put k99 pw1 e99;replace k99:=pw1.av;refine aU 0 10 11 12 13 ?_;refine ab.fP rfl (.inr rfl) ?_;rw[hRu];have hcast:((d+1:Nat):Int)-1=(d:Int):=by omega
  rw[hcast] at k99;exact⟨ae,_,rfl,⟨k99,pw.rd.below (loc.below (hK.DY pw) hle),pw.bK, .inl (by omega)⟩,hMs _ _ _ _ _ hM pw loc⟩
variable [Inhabited (List Deferred)]
theorem fp (A B:List (Nat × Value))(t:Nat):look (A++B) t=match look A t with|some v=>some v|none=>look B t:=by
 induction A with
 |nil=>rfl
 |cons x r ih=>
  obtain⟨k,v⟩:=x;show(bif Nat.beq k t then some v else look (r++B) t)=match (bif Nat.beq k t then some v else look r t) with|some v=>some v|none=>look B t
  cases Nat.beq k t with
  |true=>rfl
  |false=>exact ih
def dD (S:Nat→Bool):Nat→List Oper→List Value→List (Nat × Value)
 |k,o::r,v::vs=>match o.dst with
  |some d=>bif S k then(d,v)::dD S (k+1) r vs else dD S (k+1) r vs
  |none=>dD S (k+1) r vs
 |_,_,_=>[]
theorem eQ {S:Nat→Bool}:∀ {l:List Oper} {vs:List Value} {k t:Nat} {v:Value},look (dD S k l vs) t=some v→∃(j:Nat) (o:Oper),l[j]? =some o∧o.dst=some t∧vs[j]? =some v∧S (k+j)=true
 | [],_,_,_,_,h=>by simp[dD,look] at h
 |_::_,[],_,_,_,h=>by simp[dD,look] at h
 |o::r,v::vs,k,t,u,h=>by
  unfold dD at h
  have up:look (dD S (k+1) r vs) t=some u→∃(j:Nat) (o':Oper),(o::r)[j]? =some o'∧o'.dst=some t∧(v::vs)[j]? =some u∧S (k+j)=true:=fun h=>by
   obtain⟨j,o',h1,h2,h3,h4⟩:=eQ h;exact⟨j+1,o',by simpa using h1,h2,by simpa using h3,by rw[show k+(j+1)=k+1+j from by omega];exact h4⟩
  cases hd:o.dst with
  |none=>rw[hd] at h;exact up h
  |some d=>
   rw[hd] at h;simp only at h
   cases hS:S k with
   |false=>rw[hS] at h;exact up h
   |true=>
    rw[hS,cond_true] at h;rcases b8 h with ⟨rfl,rfl⟩|⟨_,h⟩
    ·exact⟨0,o,rfl,hd,rfl,hS⟩
    ·exact up h
theorem lT {S:Nat→Bool}:∀ {l:List Oper} {vs:List Value} {k j:Nat} {o:Oper} {d:Nat} {v:Value},l[j]? =some o→o.dst=some d→vs[j]? =some v→S (k+j)=true→(∀i o',l[i]? =some o'→i≠j→o'.dst≠some d)→look (dD S k l vs) d=some v
 | [],_,_,_,_,_,_,h,_,_,_,_=>by simp at h
 |_::_,[],_,_,_,_,_,_,_,h,_,_=>by simp at h
 |o0::r,v0::vs,k,0,o,d,v,h1,h2,h3,h4,h5=>by
  simp at h1 h3;subst h1 h3;unfold dD;rw[h2];simp only;rw[Nat.add_zero] at h4;rw[h4,cond_true];unfold look;rw[Nat.beq_refl];rfl
 |o0::r,v0::vs,k,j+1,o,d,v,h1,h2,h3,h4,h5=>by
  have ih:=lT (S:=S) (l:=r) (vs:=vs) (k:=k+1) (j:=j) (o:=o) (d:=d) (v:=v) (by simpa using h1) h2 (by simpa using h3) (by rw[show k+1+j=k+(j+1) from by omega];exact h4) (fun i o' hi hne=>h5 (i+1) o' (by simpa using hi) (by omega));unfold dD
  cases hd:o0.dst with
  |none=>exact ih
  |some d0=>
   simp only
   cases S k with
   |false=>exact ih
   |true=>
    have hne:d0≠d:=fun e=>h5 0 o0 rfl (by omega) (by rw[hd,e]);rw[cond_true];unfold look
    have:Nat.beq d0 d=false:=by
     cases hb:Nat.beq d0 d with
     |false=>rfl
     |true=>exact absurd (Nat.eq_of_beq_eq_true hb) hne
    rw[this,cond_false];exact ih
section
variable {P:Program} {Q:Exit→Act→World→Prop} {n:Nat} {F0:List (Nat × Value)}
def kh (l:List Oper)(F0:List (Nat × Value))(vs:List Value)(S:Nat→Bool)(o:Oper):List (Nat × Value):=dD (fun k=>bc (direct o) k) 0 l vs++(F0++dD S 0 l vs)
def sn {σT:Type}(l:List Oper)(n:Nat)(F0:List (Nat × Value))(vs:σT→List Value)(X:σT→(Nat→Bool)→World→Prop)(S:Nat→Bool)(k:Nat)(a:Act)(w:World):Prop:=
 ∃σ,Fr n F0 a∧(∀(j:Nat) (o:Oper) (d:Nat) (v:Value),l[j]? =some o→o.dst=some d→fD S k j=true→(vs σ)[j]? =some v→a.tmps[d]? =some v)∧X σ (fD S k) w
def Ac (l:List Oper)(S:Nat→Bool):Prop:=∀(i:Nat) (o:Oper),l[i]? =some o→S i=true→∀x∈direct o,S x=true
def D9 {σT:Type}(P:Program)(ops:Array Oper)(Q:Exit→Act→World→Prop)(l:List Oper)(n:Nat)(F0:List (Nat × Value))(vs:σT→List Value)(X:σT→(Nat→Bool)→World→Prop)(k:Nat)(o:Oper):Prop:=
 ∀(σ:σT) (S:Nat→Bool) (w:World),S k=false→(∀x∈direct o,S x=true)→Ac l S→X σ S w→Seq P ops (Exit.then (sn l n F0 vs X S k) Q) [o] n (kh l F0 (vs σ) S o) w
theorem xU {o:Oper}{a:Act}{w:World}{K K':Act→World→Prop}(h:o.wp P a w K (Exit.then K' Q)):o.wp P a w K Q:=by
 unfold Oper.wp at *;unfold Oper.upon at *;split at h<;>exact h
theorem hH {l:List Oper}{keys:List Nat}(hchk:gO n keys 0 [] l=true){j:Nat}{o:Oper}{d:Nat}(h:l[j]? =some o)(hd:o.dst=some d):d<n∧d∉keys∧∀i o',l[i]? =some o'→i≠j→o'.dst≠some d:=by
 obtain⟨-,h2⟩:=eX hchk j o h;obtain⟨a1,-,a3,a4⟩:=h2 d hd;exact⟨a1,a3,a4⟩
theorem ab.aC {σT:Type}{l:List Oper}{vs:σT→List Value}{X:σT→(Nat→Bool)→World→Prop}{σ σ':σT}{S:Nat→Bool}{k d:Nat}{o:Oper}{u:Value}{w':World}(hchk:gO n (jO F0) 0 [] l=true)(ho:l[k]? =some o)(hd:o.dst=some d)(hpre:∀x∈direct o,S x=true)(hu:(vs σ')[k]? =some u)(hj:∀j,S j=true→(vs σ')[j]? =(vs σ)[j]?)(hX:X σ' (fD S k) w'):
  ab (Exit.then (sn l n F0 vs X S k) Q) .normal n ((d,u)::kh l F0 (vs σ) S o) w':=by
 intro a ha;obtain⟨b1,b2,b3⟩:=hH hchk ho hd
 have hF:∀t v,look F0 t=some v→a.tmps[t]? =some v:=fun t v ht=>by
  have hk:=gV ht
  have hnone:∀S',look (dD S' 0 l (vs σ)) t=none:=fun S'=>by
   cases hl:look (dD S' 0 l (vs σ)) t with
   |none=>rfl
   |some x=>
    obtain⟨j,o',h1,h2,-,-⟩:=eQ hl;exact absurd hk (hH hchk h1 h2).2.1
  refine ha.slot t v ?_;unfold look
  cases hb:Nat.beq d t with
  |true=>rw[Nat.eq_of_beq_eq_true hb] at b2;exact absurd hk b2
  |false=>
   rw[cond_false];unfold kh;rw[fp,hnone];simp only;rw[fp,ht]
 refine⟨σ',⟨ha.size,ha.defers,hF⟩,fun j o' d' v h1 h2 h3 h4=> ?_,hX⟩
 by_cases hjk:j=k
 ·subst hjk
  rw[ho] at h1;injection h1 with h1
  subst h1;rw[hd] at h2;injection h2 with h2
  subst h2;rw[hu] at h4;injection h4 with h4
  subst h4;exact ha.slot d u (by unfold look;rw[Nat.beq_refl];rfl)
 ·have hS:S j=true:=by unfold fD at h3;rwa [if_neg hjk] at h3
  have hv:(vs σ)[j]? =some v:=by rw[←hj j hS];exact h4
  obtain⟨c1,c2,c3⟩:=hH hchk h1 h2;refine ha.slot d' v ?_;have hne:d≠d':=fun e=>b3 j o' h1 hjk (by rw[h2,e]);unfold look
  have hb:Nat.beq d d'=false:=by
   cases hb:Nat.beq d d' with
   |false=>rfl
   |true=>exact absurd (Nat.eq_of_beq_eq_true hb) hne
  rw[hb,cond_false];unfold kh;rw[fp];have h0:look (dD S 0 l (vs σ)) d'=some v:=lT h1 h2 hv (by rw[Nat.zero_add];exact hS) c3
  cases hl:look (dD (fun k=>bc (direct o) k) 0 l (vs σ)) d' with
  |none=>
   simp only;rw[fp]
   cases hf:look F0 d' with
   |none=>simp only;exact h0
   |some y=>exact absurd (gV hf) c2
  |some x=>
   obtain⟨i,oi,e1,e2,e3,-⟩:=eQ hl
   have:i=j:=by
    by_cases hij:i=j
    ·exact hij
    ·exact absurd e2 (c3 i oi e1 hij)
   subst this;rw[hv] at e3;exact e3.symm
theorem ab.lq {σT:Type}{l:List Oper}{vs:σT→List Value}{X:σT→(Nat→Bool)→World→Prop}{σ σ':σT}{S:Nat→Bool}{k:Nat}{o:Oper}{w':World}(hchk:gO n (jO F0) 0 [] l=true)(ho:l[k]? =some o)(hd:o.dst=none)(hj:∀j,S j=true→(vs σ')[j]? =(vs σ)[j]?)(hX:X σ' (fD S k) w'):
  ab (Exit.then (sn l n F0 vs X S k) Q) .normal n (kh l F0 (vs σ) S o) w':=by
 intro a ha
 have hF:∀t v,look F0 t=some v→a.tmps[t]? =some v:=fun t v ht=>by
  have hk:=gV ht
  have hnone:∀S',look (dD S' 0 l (vs σ)) t=none:=fun S'=>by
   cases hl:look (dD S' 0 l (vs σ)) t with
   |none=>rfl
   |some x=>
    obtain⟨j,o',h1,h2,-,-⟩:=eQ hl;exact absurd hk (hH hchk h1 h2).2.1
  refine ha.slot t v ?_;unfold kh;rw[fp,hnone];simp only;rw[fp,ht]
 refine⟨σ',⟨ha.size,ha.defers,hF⟩,fun j o' d' v h1 h2 h3 h4=> ?_,hX⟩
 have hjk:j≠k:=fun e=>by
  subst e;rw[ho] at h1;injection h1 with h1
  subst h1;rw[hd] at h2
  cases h2
 have hS:S j=true:=by unfold fD at h3;rwa [if_neg hjk] at h3
 have hv:(vs σ)[j]? =some v:=by rw[←hj j hS];exact h4
 obtain⟨c1,c2,c3⟩:=hH hchk h1 h2;refine ha.slot d' v ?_;unfold kh;rw[fp];have h0:look (dD S 0 l (vs σ)) d'=some v:=lT h1 h2 hv (by rw[Nat.zero_add];exact hS) c3
 cases hl:look (dD (fun k=>bc (direct o) k) 0 l (vs σ)) d' with
 |none=>
  simp only;rw[fp]
  cases hf:look F0 d' with
  |none=>simp only;exact h0
  |some y=>exact absurd (gV hf) c2
 |some x=>
  obtain⟨i,oi,e1,e2,e3,-⟩:=eQ hl
  have:i=j:=by
   by_cases hij:i=j
   ·exact hij
   ·exact absurd e2 (c3 i oi e1 hij)
  subst this;rw[hv] at e3;exact e3.symm
def xY:List Oper→List Value→List (Nat × Value)→List (Nat × Value)
 |o::r,v::vs,F=>match o.dst with
  |some d=>(d,v)::xY r vs F
  |none=>xY r vs F
 |_,_,F=>F
theorem rA:∀ {l:List Oper} {vs:List Value} {F:List (Nat × Value)} {t:Nat} {v:Value},look (xY l vs F) t=some v→(∃(j:Nat) (o:Oper),l[j]? =some o∧o.dst=some t∧vs[j]? =some v)∨look F t=some v
 | [],_,_,_,_,h=> .inr h
 |_::_,[],_,_,_,h=> .inr h
 |o::r,u::vs,F,t,v,h=>by
  have up:look (xY r vs F) t=some v→(∃(j:Nat) (o':Oper),(o::r)[j]? =some o'∧o'.dst=some t∧(u::vs)[j]? =some v)∨look F t=some v:=fun h=>by
   rcases rA h with ⟨j,o',h1,h2,h3⟩|h
   ·exact .inl ⟨j+1,o',by simpa using h1,h2,by simpa using h3⟩
   ·exact .inr h
  unfold xY at h
  cases hd:o.dst with
  |none=>rw[hd] at h;exact up h
  |some d=>
   rw[hd] at h;simp only at h;rcases b8 h with ⟨rfl,rfl⟩|⟨_,h⟩
   ·exact .inl ⟨0,o,rfl,hd,rfl⟩
   ·exact up h
theorem pK (m i:Nat):(Array.replicate m false).getD i false=false:=by by_cases h:i<m<;>simp[h]
def xl (ds:List Nat):Nat→Bool
 |0=>true
 |k+1=>bc ds k&&xl ds k
theorem pJ {ds:List Nat}:∀ {m:Nat},xl ds m=true→∀i,i<m→i∈ds
 |0,_,i,hi=>by omega
 |m+1,h,i,hi=>by
  unfold xl at h;simp only[Bool.and_eq_true] at h;rcases Nat.lt_or_ge i m with h1|h1
  ·exact pJ h.2 i h1
  ·obtain rfl:i=m:=by omega
   exact ar h.1
def sJ (m:Nat):List Oper→Bool
 | []=>true
 |o::r=>xl (direct o) m&&j1 m (direct o)&&mn (m+1) r
theorem Cd.iC {σT:Type}(m:Nat){id:Nat}{l:List Oper}{w:World}(hm:P.follows .mixedOrders=true)(hchk:gO n (jO F0) 0 [] (l.take m)=true)(hrest:sJ (l.take m).length (l.drop m)=true)(vs:σT→List Value)(X:σT→(Nat→Bool)→World→Prop)(σ0:σT)
  (h0:∀w0,Below w.heap.size w w0→w0.heap.size=w.heap.size→X σ0 (fun _=>false) w0)
  (hstep:∀(k:Nat) (o:Oper),(l.take m)[k]? =some o→D9 P l.toArray Q (l.take m) n F0 vs X k o)
  (hfin:∀(σ:σT) (S:Nat→Bool) (w:World),(∀i,i<(l.take m).length→S i=true)→X σ S w→Seq P l.toArray Q (l.drop m) n (xY (l.take m) (vs σ) F0) w):Cd P (.region id l.toArray true) Q n F0 w:=by
 have hops:l.toArray=(l.take m++l.drop m).toArray:=by rw[List.take_append_drop]
 revert hchk hrest hstep hfin
 generalize l.take m=init at *
 generalize l.drop m=tail at *
 intro hchk hrest hstep hfin
 generalize l.toArray=ops at *
 intro a ha;refine wp_region_any hm ?_;have hw0:=h0 {w with drawn:=w.drawn+1} ⟨rfl,rfl,rfl,Nat.le_refl _,fun _ _=>rfl⟩ rfl;have c1:=eX hchk;have hsz:ops.size=init.length+tail.length:=by rw[hops];simp
 have hat:∀i,i<init.length→ops[i]? =init[i]? :=fun i hi=>by rw[hops];simp[List.getElem?_append_left hi]
 have hat2:∀r,ops[init.length+r]? =tail[r]? :=fun r=>by rw[hops];simp[List.getElem?_append_right]
 have t0:∀o,tail[0]? =some o→(∀x∈direct o,x<init.length)∧∀i,i<init.length→i∈direct o:=by
  intro o ho
  cases tail with
  |nil=>simp at ho
  |cons o1 r=>
   obtain rfl:o1=o:=by simpa using ho
   unfold sJ at hrest;simp only[Bool.and_eq_true] at hrest;exact⟨dQ hrest.1.2,pJ hrest.1.1⟩
 have ts:∀i o,tail[i+1]? =some o→(∀x∈direct o,x<init.length+1+i)∧init.length+1+i-1∈direct o:=by
  intro i o ho
  cases tail with
  |nil=>simp at ho
  |cons o1 r=>
   unfold sJ at hrest;simp only[Bool.and_eq_true] at hrest;exact gU hrest.2 i o (by simpa using ho)
 have key:∀(fuel:Nat) (listed:Array Bool) (σ:σT) (a:Act) (w:World),listed.size=ops.size→Ac init (fun j=>listed.getD j false)→(∀i,init.length≤i→i<ops.size→listed.getD i true=false)→Fr n F0 a→(∀(j:Nat) (o:Oper) (d:Nat) (v:Value),init[j]? =some o→o.dst=some d→listed.getD j false=true→(vs σ)[j]? =some v→a.tmps[d]? =some v)→X σ (fun j=>listed.getD j false) w→left listed ops.size≤fuel→wpAny P .any ops Q fuel listed a w:=by
  have fin:∀(fuel:Nat) (listed:Array Bool) (σ:σT) (a:Act) (w:World),listed.size=ops.size→(∀i,i<init.length→listed.getD i true=true)→(∀i,init.length≤i→i<ops.size→listed.getD i true=false)→Fr n F0 a→(∀(j:Nat) (o:Oper) (d:Nat) (v:Value),init[j]? =some o→o.dst=some d→listed.getD j false=true→(vs σ)[j]? =some v→a.tmps[d]? =some v)→X σ (fun j=>listed.getD j false) w→left listed ops.size≤fuel→wpAny P .any ops Q fuel listed a w:=by
   intro fuel listed σ a w hl hall hts hF hD hX hf
   have hb:∀i,i<init.length→listed.getD i false=true:=fun i hi=>by
    have h1:=hall i hi;have h2:i<listed.size:=by omega
    simp[h2] at h1⊢;exact h1
   have hleft:∀k,k≤ops.size→left listed k=k-init.length:=by
    intro k
    induction k with
    |zero=>intro _;show 0=0-init.length;omega
    |succ k ihk=>
     intro hk;unfold left;rw[ihk (by omega)];rcases Nat.lt_or_ge k init.length with h1|h1
     ·rw[if_pos (hall k h1)];omega
     ·rw[if_neg (by rw[hts k h1 (by omega)];simp)];omega
   refine oO hops (fun o ho=>(t0 o ho).1) ts fuel 0 listed a w hl (Nat.zero_le _) (fun i hi=>hall i (by omega)) (fun i hi hi2=>hts i (by omega) hi2) (by have:=hleft ops.size (Nat.le_refl _);omega) ?_;rw[List.drop_zero];refine hfin σ _ w hb hX a ⟨hF.size,hF.defers,fun t v ht=> ?_⟩;rcases rA ht with ⟨j,o,h1,h2,h3⟩|h
   ·exact hD j o t v h1 h2 (hb j (List.getElem?_eq_some_iff.1 h1).1) h3
   ·exact hF.slot t v h
  intro fuel
  induction fuel with
  |zero=>
   intro listed σ a w hl hdc hts hF hD hX hf;have hall:=lk (Nat.le_zero.1 hf);exact fin 0 listed σ a w hl (fun i hi=>hall i (by omega)) hts hF hD hX hf
  |succ fuel ih=>
   intro listed σ a w hl hdc hts hF hD hX hf
   by_cases hdone:∀i,i<init.length→listed.getD i true=true
   ·exact fin _ listed σ a w hl hdone hts hF hD hX hf
   have hex:∃i,i∈Region.ready .any ops listed:=by
    refine Classical.byContradiction fun hno=>hdone ?_
    have this:∀i,(∀j,j<i→j<init.length→listed.getD j true=true)→i<init.length→listed.getD i true=true:=fun i hlt hi=>by
     cases hb:listed.getD i true with
     |true=>rfl
     |false=>
      exfalso;refine hno ⟨i,cU.2 ⟨hb,init[i],by rw[hat i hi,List.getElem?_eq_getElem hi],fun x hx=> ?_⟩⟩;have hxi:=(c1 i _ (List.getElem?_eq_getElem hi)).1 x hx;have h1:=hlt x (by omega) (by omega);have h2:x<listed.size:=by omega
      simp[h2] at h1⊢;exact h1
    have all:∀m i,i≤m→i<init.length→listed.getD i true=true:=by
     intro m
     induction m using Nat.strongRecOn with
     |_ m ihm=>intro i him hi;exact this i (fun j hj hjl=>ihm j (by omega) j (Nat.le_refl _) hjl) hi
    exact fun i hi=>all i i (Nat.le_refl _) hi
   refine⟨fun hnil=>(by obtain⟨i,hi⟩:=hex;rw[hnil] at hi;cases hi),fun i hi=> ?_⟩
   ·obtain⟨g1,o,ho,g2⟩:=cU.1 hi
    have hio:=(Array.getElem?_eq_some_iff.1 ho).1
    have hil:i<init.length:=by
     rcases Nat.lt_or_ge i init.length with h|h
     ·exact h
     ·exfalso
      obtain⟨q,rfl⟩:∃q,i=init.length+q:=⟨i-init.length,by omega⟩;rw[hat2] at ho
      cases q with
      |zero=>
       refine hdone fun j hj=> ?_;have h1:=g2 j ((t0 o ho).2 j hj);have h2:j<listed.size:=by omega
       simp[h2] at h1⊢;exact h1
      |succ q=>
       have h1:=g2 _ (ts q o ho).2;have h2:=hts (init.length+1+q-1) (by omega) (by omega);rw[getD_both h2] at h1
       cases h1
    rw[hat i hil] at ho;have hSi:listed.getD i false=false:=getD_both g1
    have hst:=hstep i o ho σ (fun j=>listed.getD j false) w hSi g2 hdc hX a ⟨hF.size,hF.defers,fun t v ht=>by
     unfold kh at ht;rw[fp] at ht
     cases h1:look (dD (fun k=>bc (direct o) k) 0 init (vs σ)) t with
     |some x=>
      rw[h1] at ht;injection ht with ht
      subst ht;obtain⟨j,oj,e1,e2,e3,e4⟩:=eQ h1;rw[Nat.zero_add] at e4;exact hD j oj t x e1 e2 (g2 j (ar e4)) e3
     |none=>
      rw[h1] at ht;simp only at ht;rw[fp] at ht
      cases h2:look F0 t with
      |some x=>
       rw[h2] at ht;injection ht with ht
       subst ht;exact hF.slot t x h2
      |none=>
       rw[h2] at ht;simp only at ht;obtain⟨j,oj,e1,e2,e3,e4⟩:=eQ ht;rw[Nat.zero_add] at e4;exact hD j oj t v e1 e2 e4 e3⟩
    have hupd:(fun j=>(listed.setIfInBounds i true).getD j false)=fD (fun j=>listed.getD j false) i:=by
     funext j
     unfold fD
     by_cases e:i=j
     ·subst e;simp[gf false (show i<listed.size by omega)]
     ·rw[getD_set_ne false e,if_neg (fun h=>e h.symm)]
    have next:∀a' w',sn init n F0 vs X (fun j=>listed.getD j false) i a' w'→wpAny P .any ops Q fuel (listed.setIfInBounds i true) a' w':=by
     rintro a' w' ⟨σ',h1,h2,h3⟩;rw[←hupd] at h3;refine ih _ σ' a' w' (by simp[hl]) ?_ (fun j h4 h5=>by rw[getD_set_ne true (by omega)];exact hts j h4 h5) h1 (fun j oj d v e1 e2 e3 e4=>h2 j oj d v e1 e2 (by rw[←hupd];exact e3) e4) h3 ?_
     ·intro i2 o2 e1 e2 x hx
      simp only at e2⊢
      by_cases e:i=i2
      ·subst e
       rw[ho] at e1;injection e1 with e1
       subst e1;exact getD_set_true (g2 x hx)
      ·rw[getD_set_ne false e] at e2
       exact getD_set_true (hdc i2 o2 e1 e2 x hx)
     ·have:=mv (listed:=listed) (i:=i) (by omega) g1 ops.size
      rw[if_pos hio] at this;omega
    unfold wpOp;rw[hat i hil,ho];simp only;unfold wpList at hst
    by_cases hwant:Region.wanted o (yielded ops a.tmps)=true
    ·rw[if_pos hwant] at hst⊢
     rcases hst with hst|⟨h1,h2⟩
     ·exact .inl (Oper.wp_mono next (xU (Oper.wp_mono (fun a' w' h=>h) hst)))
     ·exact .inr ⟨h1,h2⟩
    ·rw[if_neg hwant] at hst⊢
     exact next _ _ hst
 refine key ops.size _ σ0 a _ (by simp) (fun i o _ h=> ?_) (fun i _ h=>by simp[h]) ha (fun j o d v _ _ h _=> ?_) ?_ ?_
 ·simp only[pK] at h;cases h
 ·rw[pK] at h;cases h
 ·have hrep:(fun j=>(Array.replicate ops.size false).getD j false)=fun _=>false:=funext fun i=>pK _ i
  rw[hrep];exact hw0
 ·have:∀k,left (Array.replicate ops.size false) k≤k:=by
   intro k
   induction k with
   |zero=>exact Nat.le_refl _
   |succ k ih=>unfold left;split<;>omega
  exact this _
end
end Go.Proofs.YtigoimhndlnhfaaGreat
namespace Go.Proofs.YtigoimhndlnhfaaGreat
open Go.RowKit
structure Kp (w w':World):Prop where
 size:w.heap.size≤w'.heap.size
 ew:∀k t cs,aK w k t cs→t≠71→t≠105→t≠219→aK w' k t cs
section
variable {w w' w'':World}
theorem Kp.refl (w:World):Kp w w:=⟨Nat.le_refl _,fun _ _ _ h _ _ _=>h⟩
theorem Kp.trans (a:Kp w w')(b:Kp w' w''):Kp w w'':=⟨Nat.le_trans a.size b.size,fun k t cs h h1 h2 h3=>b.ew k t cs (a.ew k t cs h h1 h2 h3) h1 h2 h3⟩
theorem Kp.step (a:Kp w w')(b:Below w'.heap.size w' w''):Kp w w'':=a.trans ⟨b.size,fun _ _ _ h _ _ _=>h.step b⟩
theorem Kp.fz {g:Nat}{cs:Array Value}(a:Kp w w')(k:aK w' g 219 cs)(b:Fz w'.heap.size g w' w''):Kp w w'':=a.trans ⟨b.size,fun i t cs h _ _ h3=>h.fz b fun e=>h3 (by
 subst e;have h1:w'.heap[i]? =_:=h;have h2:w'.heap[i]? =_:=k;rw[h1] at h2;injection h2 with h2
 injection h2)⟩
theorem Kp.put {g:Nat}{E:Prop}{T:TypeId}{cur cs:Array Value}(a:Kp w w')(k:aK w' g T cur)(p:lD w' w'' g T cs)(_e:E)(hT:(T=71∨T=105∨T=219)∨w.heap.size≤g:=by first|exact .inl (by decide)|exact .inr (by omega)):Kp w w'':=by
 refine⟨Nat.le_trans a.size (Nat.le_of_eq p.size.symm),fun i t cs h h1 h2 h3=> ?_⟩;rcases hT with hT|hg
 ·exact(a.ew i t cs h h1 h2 h3).put p ((a.ew i t cs h h1 h2 h3).ne k (by rcases hT with rfl|rfl|rfl<;>assumption))
 ·exact(a.ew i t cs h h1 h2 h3).put p (by have:=h.lt;omega)
theorem Kp.app {B n size:Nat}{e:TypeId}{v:Value}{xs:List Value}(a:Kp w w')(o:Own w' B e size v n xs)(ha:App w' w'' B v)(hT:e=71∨e=105:=by decide):Kp w w'':=
 a.trans ⟨ha.below.size,fun i t cs h h1 h2 _=>h.grown ha.grown (fun e'=>fy o.row h (by rcases hT with rfl|rfl<;>exact fun e=>by first|exact h1 e.symm|exact h2 e.symm) e'.symm)⟩
end
theorem Kp.av {w w':World}{k:Nat}{t:TypeId}{cs:Array Value}(a:Kp w w')(h:aK w k t cs)(h1:t≠71:=by decide)(h2:t≠105:=by decide)(h3:t≠219:=by decide):aK w' k t cs:=a.ew k t cs h h1 h2 h3
structure dt (W:World)(h gt:Nat)(es:List Ex)(ts:List Tm)(evs tvs:List Value)(vE vT:Value)(S:Nat→Prop):Prop where
 tM:evs.length=es.length
 vk:tvs.length=ts.length
 eW:Own W h 105 4 vE es.length (aP evs)
 fh:Own W h 71 4 vT ts.length (aP tvs)
 zx:∀(i:Nat) (e:Ex) (v:Value),es[i]? =some e→evs[i]? =some v→cw W S e v
 CN:∀(i:Nat) (t:Tm) (v:Value),ts[i]? =some t→tvs[i]? =some v→dm W S t v
 AN:∀b,S b→h≤b∧b<W.heap.size∧b≠gt∧vE.ownBlock≠some b∧vT.ownBlock≠some b
 zi:vE.ownBlock≠some gt
 xS:vT.ownBlock≠some gt
section
variable {W W':World} {h gt g:Nat} {es:List Ex} {ts:List Tm} {evs tvs:List Value} {vE vT:Value} {S:Nat→Prop}
theorem Own.jN {B n size:Nat}{e:TypeId}{v:Value}{xs:List Value}(o:Own W B e size v n xs)(hs:W.heap.size≤W'.heap.size)(hb:∀b,v.ownBlock=some b→W'.heap[b]? =W.heap[b]?):Own W' B e size v n xs:=by
 obtain⟨h1,⟨h2,h3⟩|⟨g,cap,cur,rfl,e2,e3,e4⟩⟩:=o.row
 ·exact⟨h1, .inl ⟨h2,h3⟩⟩
 ·exact⟨h1, .inr ⟨g,cap,cur,rfl,e2,(hb g rfl).trans e3,e4⟩⟩
theorem dt.ew (a:dt W h gt es ts evs tvs vE vT S)(hs:W.heap.size≤W'.heap.size)(hb:∀b,h≤b→b<W.heap.size→b≠gt→W'.heap[b]? =W.heap[b]?):dt W' h gt es ts evs tvs vE vT S:=by
 have hS:∀p:Addr,S p.block→W'.cell? p=W.cell? p:=fun p hp=>by
  obtain⟨b1,b2,b3,-,-⟩:=a.AN _ hp;exact World.cell?_of_block (hb _ b1 b2 b3)
 refine⟨a.tM,a.vk,a.eW.jN hs fun b e=> ?_,a.fh.jN hs fun b e=> ?_,fun i e v h1 h2=>(a.zx i e v h1 h2).mono (fun _ h=>h) hS,fun i e v h1 h2=>(a.CN i e v h1 h2).mono (fun _ h=>h) hS,fun b hb=> ?_,a.zi,a.xS⟩
 ·obtain⟨h1,h2⟩:=a.eW.aT b e
  exact hb b h1 h2 fun e'=>a.zi (by rw[e,e'])
 ·obtain⟨h1,h2⟩:=a.fh.aT b e
  exact hb b h1 h2 fun e'=>a.xS (by rw[e,e'])
 ·obtain⟨b1,b2,b3,b4,b5⟩:=a.AN b hb
  exact⟨b1,by omega,b3,b4,b5⟩
theorem dt.fz (a:dt W h gt es ts evs tvs vE vT S)(f:Fz W.heap.size g W W')(hg:g<h):dt W' h gt es ts evs tvs vE vT S:=a.ew f.size fun b h1 h2 _=>f.block b h2 (by omega)
theorem dt.step (a:dt W h gt es ts evs tvs vE vT S)(f:Below W.heap.size W W'):dt W' h gt es ts evs tvs vE vT S:=a.ew f.size fun b _ h2 _=>f.block b h2
theorem dt.put {T:TypeId}{cur cs:Array Value}{B:Nat}(a:dt W h gt es ts evs tvs vE vT S)(_k:aK W gt T cur)(p:lD W W' gt T cs)(_e:B≤gt):dt W' h gt es ts evs tvs vE vT S:=a.ew (Nat.le_of_eq p.size.symm) fun b _ h2 h3=>p.grown.block b h2 fun e=>h3 (by injection e)
end
theorem Own.oB {w:World}{B s n:Nat}{e:TypeId}{v:Value}{xs ys:List Value}(o:Own w B e s v (n+1) (xs++ys))(hl:xs.length=n*s):∃g cap cur,v= .slice (some ⟨g,0,none⟩) (n+1) cap∧B≤g∧g<w.heap.size∧aK w g e cur∧n*s+s≤cur.size∧
  ∀(w':World) (cs:Array Value),cs.size=s→lD w w' g e (cur.toList.take (n*s)++(cs.toList++cur.toList.drop (n*s+cs.size))).toArray→Own w' B e s v (n+1) (xs++cs.toList):=by
 obtain⟨h1,⟨-,h3⟩|⟨g,cap,cur,rfl,e2,e3,e4,e5,e6,e7⟩⟩:=o.row
 ·omega
 ·have hk:aK w g e cur:=e3
  have hm:(n+1)*s≤cap*s:=Nat.mul_le_mul_right s e4;have hns:(n+1)*s=n*s+s:=Nat.succ_mul n s;refine⟨g,cap,cur,rfl,e2,hk.lt,hk,by omega,fun w' cs hcs p=>⟨?_, .inr ⟨g,cap,_,rfl,e2,p.av,e4,e5,?_,?_⟩⟩⟩
  ·have:cs.toList.length=s:=by simpa using hcs
   rw[List.length_append,hl,this,hns]
  ·have h9:cur.toList.length=cap*s:=by simpa using e6
   have:cs.toList.length=s:=by simpa using hcs
   simp only[List.size_toArray,List.length_append,List.length_take,List.length_drop,this,h9,hcs];omega
  ·have h9:cur.toList.length=cap*s:=by simpa using e6
   have h10:cs.toList.length=s:=by simpa using hcs
   have htk:cur.toList.take (n*s)=xs:=by
    have:=congrArg (List.take (n*s)) e7;rw[List.take_take,Nat.min_eq_left (by omega),←hl,List.take_left' rfl] at this;rw[←hl];exact this
   rw[htk,←List.append_assoc,hns,List.take_left' (by rw[List.length_append,hl,h10])]
theorem Own.two {W:World}{B B' n m s s':Nat}{e e':TypeId}{v u:Value}{xs ys:List Value}(o:Own W B e s v n xs)(o':Own W B' e' s' u m ys)(hne:e≠e'):Er v u:=fun b h1 h2=>by
 obtain⟨-,⟨rfl,-⟩|⟨g,cap,cur,rfl,-,e3,-⟩⟩:=o.row
 ·cases h1
 obtain⟨-,⟨rfl,-⟩|⟨g',cap',cur',rfl,-,e3',-⟩⟩:=o'.row
 ·cases h2
 injection h1 with h1
 injection h2 with h2
 have h1:g=b:=h1;have h2:g'=b:=h2;subst h1;subst h2;rw[e3] at e3';injection e3' with e3'
 injection e3' with _ e3'
 exact hne e3'
theorem dt.Bz {W W':World}{h gt:Nat}{es:List Ex}{ts:List Tm}{evs tvs:List Value}{vE vT vE':Value}{S S':Nat→Prop}(a:dt W h gt es ts evs tvs vE vT S){x:Ex}{v:Value}(hr:cw W S' x v)(hS':∀b,S' b→h≤b∧b<W.heap.size∧b≠gt∧vE.ownBlock≠some b∧vT.ownBlock≠some b)
  (o:Own W' h 105 4 vE' (es.length+1) (aP evs++v.cells.toList)) (hs:W.heap.size≤W'.heap.size) (hb:∀b,h≤b→b<W.heap.size→b≠gt→vE.ownBlock≠some b→W'.heap[b]? =W.heap[b]?) (hv':vE'.ownBlock=vE.ownBlock∨∃N,vE'.ownBlock=some N∧W.heap.size≤N) (hgt:gt<W.heap.size):
  dt W' h gt (es++[x]) ts (evs++[v]) tvs vE' vT (fun b=>S b∨S' b):=by
 have htwo:Er vE vT:=a.eW.two a.fh (by decide);have hS:∀b,(S b∨S' b)→h≤b∧b<W.heap.size∧b≠gt∧vE.ownBlock≠some b∧vT.ownBlock≠some b:=fun b hb=>hb.elim (a.AN b) (hS' b)
 have hc:∀p:Addr,(S p.block∨S' p.block)→W'.cell? p=W.cell? p:=fun p hp=>by
  obtain⟨b1,b2,b3,b4,-⟩:=hS _ hp;exact World.cell?_of_block (hb _ b1 b2 b3 b4)
 have hneE:∀b,b<W.heap.size→vE.ownBlock≠some b→vE'.ownBlock≠some b:=fun b h1 h2 h3=>by
  rcases hv' with e|⟨N,e,hN⟩
  ·exact h2 (by rw[←e,h3])
  ·rw[e] at h3;injection h3 with h3;omega
 refine⟨by simp[a.tM],a.vk,?_,a.fh.jN hs fun b e=> ?_,fun i e u h1 h2=> ?_,fun i t u h1 h2=>(a.CN i t u h1 h2).mono (fun _ h=> .inl h) (fun p hp=>hc p (.inl hp)),fun b hb'=> ?_,hneE gt hgt a.zi,a.xS⟩
 ·have hf:aP (evs++[v])=aP evs++v.cells.toList:=by rw[mu];simp[aP]
  rw[hf,List.length_append];exact o
 ·obtain⟨h1,h2⟩:=a.fh.aT b e
  exact hb b h1 h2 (fun e'=>a.xS (by rw[e,e'])) (fun e'=>htwo b e' e)
 ·rcases Nat.lt_or_ge i es.length with hi|hi
  ·rw[List.getElem?_append_left hi] at h1
   rw[List.getElem?_append_left (by rw[a.tM];exact hi)] at h2;exact(a.zx i e u h1 h2).mono (fun _ h=> .inl h) (fun p hp=>hc p (.inl hp))
  ·rw[List.getElem?_append_right hi] at h1
   rw[List.getElem?_append_right (by rw[a.tM];exact hi),a.tM] at h2
   have h0:i-es.length=0:=by
    have:=(List.getElem?_eq_some_iff.1 h1).1;simp at this;exact this
   rw[h0] at h1 h2;injection h1 with h1
   injection h2 with h2
   subst h1 h2;exact hr.mono (fun _ h=> .inr h) (fun p hp=>hc p (.inr hp))
 ·obtain⟨b1,b2,b3,b4,b5⟩:=hS b hb'
  exact⟨b1,by omega,b3,hneE b b2 b4,b5⟩
theorem dt.yK {W W':World}{h gt:Nat}{es:List Ex}{ts:List Tm}{evs tvs:List Value}{vE vT vT':Value}{S S':Nat→Prop}(a:dt W h gt es ts evs tvs vE vT S){x:Tm}{v:Value}(hr:dm W S' x v)(hS':∀b,S' b→h≤b∧b<W.heap.size∧b≠gt∧vE.ownBlock≠some b∧vT.ownBlock≠some b)
  (o:Own W' h 71 4 vT' (ts.length+1) (aP tvs++v.cells.toList)) (hs:W.heap.size≤W'.heap.size) (hb:∀b,h≤b→b<W.heap.size→b≠gt→vT.ownBlock≠some b→W'.heap[b]? =W.heap[b]?) (hv':vT'.ownBlock=vT.ownBlock∨∃N,vT'.ownBlock=some N∧W.heap.size≤N) (hgt:gt<W.heap.size):
  dt W' h gt es (ts++[x]) evs (tvs++[v]) vE vT' (fun b=>S b∨S' b):=by
 have htwo:Er vE vT:=a.eW.two a.fh (by decide);have hS:∀b,(S b∨S' b)→h≤b∧b<W.heap.size∧b≠gt∧vE.ownBlock≠some b∧vT.ownBlock≠some b:=fun b hb=>hb.elim (a.AN b) (hS' b)
 have hc:∀p:Addr,(S p.block∨S' p.block)→W'.cell? p=W.cell? p:=fun p hp=>by
  obtain⟨b1,b2,b3,-,b4⟩:=hS _ hp;exact World.cell?_of_block (hb _ b1 b2 b3 b4)
 have hneT:∀b,b<W.heap.size→vT.ownBlock≠some b→vT'.ownBlock≠some b:=fun b h1 h2 h3=>by
  rcases hv' with e|⟨N,e,hN⟩
  ·exact h2 (by rw[←e,h3])
  ·rw[e] at h3;injection h3 with h3;omega
 refine⟨a.tM,by simp[a.vk],a.eW.jN hs fun b e=> ?_,?_,fun i e u h1 h2=>(a.zx i e u h1 h2).mono (fun _ h=> .inl h) (fun p hp=>hc p (.inl hp)),fun i t u h1 h2=> ?_,fun b hb'=> ?_,a.zi,hneT gt hgt a.xS⟩
 ·obtain⟨h1,h2⟩:=a.eW.aT b e
  exact hb b h1 h2 (fun e'=>a.zi (by rw[e,e'])) (fun e'=>htwo b e e')
 ·have hf:aP (tvs++[v])=aP tvs++v.cells.toList:=by rw[mu];simp[aP]
  rw[hf,List.length_append];exact o
 ·rcases Nat.lt_or_ge i ts.length with hi|hi
  ·rw[List.getElem?_append_left hi] at h1
   rw[List.getElem?_append_left (by rw[a.vk];exact hi)] at h2;exact(a.CN i t u h1 h2).mono (fun _ h=> .inl h) (fun p hp=>hc p (.inl hp))
  ·rw[List.getElem?_append_right hi] at h1
   rw[List.getElem?_append_right (by rw[a.vk];exact hi),a.vk] at h2
   have h0:i-ts.length=0:=by
    have:=(List.getElem?_eq_some_iff.1 h1).1;simp at this;exact this
   rw[h0] at h1 h2;injection h1 with h1
   injection h2 with h2
   subst h1 h2;exact hr.mono (fun _ h=> .inr h) (fun p hp=>hc p (.inr hp))
 ·obtain⟨b1,b2,b3,b4,b5⟩:=hS b hb'
  exact⟨b1,by omega,b3,b4,hneT b b2 b5⟩
def nN (W:World)(x:Ex)(v:Value)(W':World):Prop:=∃S:Nat→Prop,cw W' S x v∧∀b,S b→W.heap.size≤b∧b<W'.heap.size
def zl (W:World)(x:Tm)(v:Value)(W':World):Prop:=∃S:Nat→Prop,dm W' S x v∧∀b,S b→W.heap.size≤b∧b<W'.heap.size
structure XA {α:Type}(qs:World→(Nat→Prop)→α→Value→Prop)(K:Ctx)(w1:World)(p d:Nat)(r:Rs α)(done made:Bool)(S':Nat→Prop)(v:Value)(g7:Nat)(zt:TypeId)(zc:Array Value)(w:World):Prop where
 fz:Fz w1.heap.size K.g w1 w
 pre:done=false→PW K w p d false
 post:done=true→∃x p',r= .ok x p'∧PW K w p' d false∧qs w S' x v∧∀b,S' b→w1.heap.size≤b∧b<w.heap.size
 new:made=true→w1.heap.size≤g7∧aK w g7 zt zc∧(done=true→¬S' g7)
theorem aK.zd {w w':World}{k g:Nat}{T T':TypeId}{cs cs':Array Value}{h:Nat}(b:aK w k T cs)(q:aK w g T' cs')(a:Fz h g w w')(hh:w.heap.size≤h)(hne:T≠T':=by decide):aK w' k T cs:=b.fz (a.less hh) (b.ne q hne)
theorem dm.aY {w:World}{S:Nat→Prop}{t:Tm}{v:Value}(h:dm w S t v):v.cells.size=4∧∀u∈v.cells.toList,u.oneCell'=true:=by
 obtain⟨A,c,A',c',rfl⟩:=h.form;refine⟨rfl,fun u hu=> ?_⟩;simp[Value.cells] at hu;rcases hu with rfl|rfl|rfl|rfl<;>rfl
theorem cw.aY {w:World}{S:Nat→Prop}{t:Ex}{v:Value}(h:cw w S t v):v.cells.size=4∧∀u∈v.cells.toList,u.oneCell'=true:=by
 obtain⟨A,c,rfl⟩:=h.form;refine⟨rfl,fun u hu=> ?_⟩;simp[Value.cells] at hu;rcases hu with rfl|rfl|rfl|rfl<;>rfl
theorem nC:cf Tryz.prog 4=some (some (.bool false)):=by kernel_rfl
theorem iA:∀ {l:List Value},(∀u∈l,u.oneCell'=true)→aY l
 | [],_=>trivial
 |v::r,h=>⟨h v List.mem_cons_self,iA fun u hu=>h u (List.mem_cons_of_mem _ hu)⟩
theorem Bh (K:Ctx)(hK:K.Ok)(h0 gt b0 b1 d p:Nat)(op:Int)(nm:List Nat)(es:List Ex)(ts:List Tm)(evs tvs:List Value)(vE vT:Value)(S0:Nat→Prop)(T:Nat→Nat→Rs Tm)(w:World)(pw:PW K w p d false)(hg0:K.g<h0)(hgt:h0≤gt)(hh:h0≤w.heap.size)
  (kt:aK w gt 71 #[.int .i64 op, .string (strOf nm),vE,vT]) (kb0:aK w b0 227 #[.pointer (some ⟨gt,0,none⟩)]) (kb1:aK w b1 189 #[.pointer (some ⟨K.g,0,none⟩)]) (aq:dt w h0 gt es ts evs tvs vE vT S0) (hl:ts.length≤10)
  (hc:∀W,PW K W p d false→Fz w.heap.size K.g w W→Calls Tryz.prog 128 #[.pointer (some ⟨K.g,0,none⟩)] W (PR K W d (T p d) (zl W))) (hne:T p d≠ .out):
  Calls Tryz.prog 212 #[.pointer (some ⟨b0,0,none⟩), .pointer (some ⟨b1,0,none⟩)] w (tX K h0 w d (T p d) fun x _ W'=>Kp w W'∧∃evs tvs vE vT S,aK W' gt 71 #[.int .i64 op, .string (strOf nm),vE,vT]∧dt W' h0 gt es (ts++[x]) evs tvs vE vT S):=by
 have hle:=hK.le;have hgg:K.g<w.heap.size:=pw.av.lt;have hgtl:gt<w.heap.size:=kt.lt;obtain⟨AE,cE,rfl,-⟩:=aq.eW.reads;obtain⟨AT,cT,rfl,-⟩:=aq.fh.reads;refine Zs 27 Tryz.func212 ?_;refine Cd.seq ?_;refine Cd.iC (σT:=Nat × Bool) 3 (by kernel_rfl) rfl rfl (fun σ=>[.pointer (some ⟨σ.1,0,none⟩),undef,undef]) (fun σ S W=>Below w.heap.size w W∧(S 0=true→w.heap.size≤σ.1∧aK W σ.1 4 #[.bool σ.2])) ((0,false)) ?_ ?_ ?_
 ·intro w0 hb0 hs0
  exact⟨hb0,fun h=>by cases h⟩
 ·intro k o ho
  match k,ho with
  |0,ho=>
   injection ho with ho
   subst ho;intro σ S w hS hpre hdc hX;refine Zl nC ?_;intro g2 w' n2;refine Seq.nil ?_;exact ab.aC (σ:=σ) (σ':=(g2,false)) rfl rfl rfl hpre rfl (fun j hj=>by cases j with|zero=>rw[hS] at hj;cases hj|succ j=>rfl) ⟨hX.1.trans (n2.below.mono hX.1.size),fun _=>⟨Nat.le_trans hX.1.size n2.ge,n2.av⟩⟩
  |1,ho=>
   injection ho with ho
   subst ho;intro σ S w hS hpre hdc hX;have h2:=hX.2 (hpre 0 (ar rfl));refine Zq h2.2 ?_;intro w' pq;refine Seq.nil ?_;exact ab.lq (σ:=σ) (σ':=(σ.1,true)) rfl rfl rfl (fun _ _=>rfl) ⟨pq.jm hX.1 h2.1 h2.2.lt,fun _=>⟨h2.1,pq.av⟩⟩
  |2,ho=>
   injection ho with ho
   subst ho;intro σ S w hS hpre hdc hX;have h2:=hX.2 (hpre 0 (ar rfl));refine Zq h2.2 ?_;intro w' pq;refine Seq.nil ?_;exact ab.lq (σ:=σ) (σ':=(σ.1,false)) rfl rfl rfl (fun _ _=>rfl) ⟨pq.jm hX.1 h2.1 h2.2.lt,fun _=>⟨h2.1,pq.av⟩⟩
  |k+3,ho=>simp at ho
 rintro⟨g2,b2⟩ S w2 hS ⟨bel2,hX⟩;obtain⟨e2,k2⟩:=hX (hS 0 (by decide));dsimp only at e2 k2;have pw2:=pw.step hle bel2;have kt2:=kt.step bel2;have kb02:=kb0.step bel2;have kb12:=kb1.step bel2;have aq2:=aq.step bel2;have hs2:=bel2.size;have fz2:Fz w.heap.size K.g w w2:=Fz.of bel2;have kp2:Kp w w2:=(Kp.refl w).step bel2;have hh2:h0≤w2.heap.size:=by omega
 clear pw kt kb0 kb1 aq hX;have hcall:∀W,PW K W p d false→Fz w2.heap.size K.g w2 W→Calls Tryz.prog 128 #[.pointer (some ⟨K.g,0,none⟩)] W (PR K W d (T p d) (zl W)):=fun W h1 h2=>hc W h1 (fz2.trans (h2.less hs2));refine Zv (aa.ag rfl rfl Tryz.underlying4 rfl k2 rfl) ?_;refine bD 0 1 3 (Zt ?_);refine Cd.cond rfl (fun hcn=> ?_) (fun hcn=> ?_)
 ·skip
  refine Cd.seq ?_;refine Cd.iC (σT:=Value × (Nat→Prop) × Nat) 8 (by kernel_rfl) rfl rfl (fun σ=>[.pointer (some ⟨gt,0,none⟩), .pointer (some ⟨gt,0,none⟩), .pointer (some ⟨gt,3,none⟩), .slice AT ts.length cT, .pointer (some ⟨K.g,0,none⟩),σ.1, .int .i64 (ts.length:Int), .slice (some ⟨σ.2.2,0,none⟩) 1 1]) (fun σ S W=>XA dm K w2 p d (T p d) (S 5) (S 7) σ.2.1 σ.1 σ.2.2 71 #[.int .i64 0, .string {data:= #[]}, .slice none 0 0, .slice none 0 0] W) ((undef,fun _=>False,0)) ?_ ?_ ?_
  ·intro w0 hb0 hs0
   exact⟨Fz.of hb0,fun _=>pw2.step hle hb0,fun h=>(by cases h),fun h=>(by cases h)⟩
  ·intro k o ho
   match k,ho with
   |0,ho=>
    injection ho with ho
    subst ho;intro σ S w hS hpre hdc hX;refine Seq.val (aa.ag (g:=b0) (i:=0) rfl rfl Tryz.underlying227 rfl (kb02.zd pw2.av hX.fz (Nat.le_refl _)) rfl) rfl rfl rfl (Seq.nil ?_);exact ab.aC rfl rfl rfl hpre rfl (fun _ _=>rfl) hX
   |1,ho=>
    injection ho with ho
    subst ho;intro σ S w hS hpre hdc hX;refine Seq.val (aa.nilCheck rfl rfl) rfl rfl rfl (Seq.nil ?_);exact ab.aC rfl rfl rfl hpre rfl (fun _ _=>rfl) hX
   |2,ho=>
    injection ho with ho
    subst ho;intro σ S w hS hpre hdc hX;refine Seq.val (aa.fL 3 rfl rfl Tryz.underlying71 rfl (by kernel_rfl)) rfl rfl rfl (Seq.nil ?_);exact ab.aC rfl rfl rfl hpre rfl (fun _ _=>rfl) hX
   |3,ho=>
    injection ho with ho
    subst ho;intro σ S w hS hpre hdc hX;refine Seq.val (aa.ag (g:=gt) (i:=3) rfl rfl Tryz.underlying69 rfl (kt2.fz hX.fz (by omega)) rfl) rfl rfl rfl (Seq.nil ?_);exact ab.aC rfl rfl rfl hpre rfl (fun _ _=>rfl) hX
   |4,ho=>
    injection ho with ho
    subst ho;intro σ S w hS hpre hdc hX;refine Seq.val (aa.ag (g:=b1) (i:=0) rfl rfl Tryz.underlying189 rfl (kb12.zd pw2.av hX.fz (Nat.le_refl _)) rfl) rfl rfl rfl (Seq.nil ?_);exact ab.aC rfl rfl rfl hpre rfl (fun _ _=>rfl) hX
   |5,ho=>
    injection ho with ho
    subst ho;intro σ S w hS hpre hdc hX;have hcl:=hcall w (hX.pre hS) hX.fz;rcases Rs.dy hne with ⟨q,ov,hr⟩|⟨x,q,hr⟩
    ·rw[hr] at hcl
     refine Seq.cS (Ze Tryz.func128) rfl hcl ?_;rintro e w6 ⟨hf,rfl,d6,hp6⟩;refine⟨_,rfl,fun a ha=>⟨ha.defers,?_⟩⟩;rw[hr];exact⟨(fz2.trans ((hX.fz.call hf).less hs2)).less hh,rfl,d6,hp6⟩
    ·rw[hr] at hcl
     refine Zc (Ze Tryz.func128) hcl ?_;rintro e w6 ⟨hf,v6,rfl,hp6,S6,hr6,hb6⟩;refine⟨_,rfl,Seq.nil ?_⟩;have hsz:=hX.fz.size;refine ab.aC (σ:=σ) (σ':=(v6,S6,σ.2.2)) rfl rfl rfl hpre rfl (fun j hj=> ?_) ⟨hX.fz.call hf,(fun h=>by cases h),fun _=>⟨x,q,hr,hp6,hr6,fun b hb=>⟨by have:=(hb6 b hb).1;omega,(hb6 b hb).2⟩⟩,fun hm=> ?_⟩
     ·match j,hj with
      |0,_=>rfl
      |1,_=>rfl
      |2,_=>rfl
      |3,_=>rfl
      |4,_=>rfl
      |5,hj=>rw[hS] at hj;cases hj
      |6,_=>rfl
      |7,_=>rfl
      |j+8,_=>rfl
     ·obtain⟨m1,m2,-⟩:=hX.new hm
      exact⟨m1,m2.fz hf (by omega),fun _ hb=>Nat.lt_irrefl _ (Nat.lt_of_lt_of_le m2.lt (hb6 _ hb).1)⟩
   |6,ho=>
    injection ho with ho
    subst ho;intro σ S w hS hpre hdc hX;refine Seq.val (aa.len rfl rfl Tryz.underlying69) rfl rfl rfl (Seq.nil ?_);exact ab.aC rfl rfl rfl hpre rfl (fun _ _=>rfl) hX
   |7,ho=>
    injection ho with ho
    subst ho;intro σ S w hS hpre hdc hX;refine Seq.slice (vs:=[.agg #[.int .i64 0, .string {data:= #[]}, .slice none 0 0, .slice none 0 0]]) (s:=4) rfl rfl rfl Tryz.underlying69 (by kernel_rfl) aI (by omega) (by omega) ⟨rfl,trivial⟩ rfl rfl rfl ?_;intro g7 w' n7;refine Seq.nil ?_;have hsz:=hX.fz.size;refine ab.aC (σ:=σ) (σ':=(σ.1,σ.2.1,g7)) rfl rfl rfl hpre rfl (fun j hj=> ?_) ⟨hX.fz.step n7.below,fun h=>(hX.pre h).step hle n7.below,fun h=> ?_,fun _=>⟨Nat.le_trans hsz n7.ge,n7.av,fun h hb=> ?_⟩⟩
    ·match j,hj with
     |0,_=>rfl
     |1,_=>rfl
     |2,_=>rfl
     |3,_=>rfl
     |4,_=>rfl
     |5,_=>rfl
     |6,_=>rfl
     |7,hj=>rw[hS] at hj;cases hj
     |j+8,_=>rfl
    ·obtain⟨x,q,q1,q2,q3,q4⟩:=hX.post h
     exact⟨x,q,q1,q2.step hle n7.below,q3.mono (fun _ h=>h) (fun a ha=>n7.below.cell (q4 _ ha).2),fun b hb=>⟨(q4 b hb).1,Nat.lt_of_lt_of_le (q4 b hb).2 n7.below.size⟩⟩
    ·obtain⟨x,q,q1,q2,q3,q4⟩:=hX.post h
     exact Nat.lt_irrefl _ (Nat.lt_of_lt_of_le (q4 _ hb).2 n7.ge)
   |k+8,ho=>simp at ho
  ·rintro⟨v5,S5,g7⟩ S w3 hS hX
   obtain⟨x,q,hr,pw3,hrep,haway⟩:=hX.post (hS 5 (by decide));obtain⟨e7,k7,hn7⟩:=hX.new (hS 7 (by decide));dsimp only at hrep haway e7 k7;have fz3:=hX.fz;clear hX;have hs3:=fz3.size;have k90:=kt2.fz fz3 (by omega);have aq3:=aq2.fz fz3 hg0;have kp3:Kp w w3:=kp2.fz pw2.av fz3;have e90:h0≤gt:=hgt;have ae:Fz h0 K.g w w3:=(fz2.trans (fz3.less hs2)).less hh;have hh3:h0≤w3.heap.size:=by omega
   have hown:=aq3.fh;have hones:=hrep.aY;rw[hr];refine Seq.fN rfl rfl rfl Tryz.underlying69 (by kernel_rfl) aI rfl (by decide) (b:=72) (by kernel_rfl) hown (Reads.av (size:=4) k7 1 rfl) (by intro z hz;simp at hz;rcases hz with rfl|rfl|rfl|rfl<;>rfl) hh3 (by simp only[maxLen];omega) (by omega) rfl rfl rfl ?_;intro v' w4 hown' happ hv';obtain⟨AV,cV,hvV,-⟩:=hown'.reads;subst hvV;have k90':=k90.grown happ.grown (fun e=>aq3.xS e.symm);have pw4:PW K w4 q d false:=⟨pw3.av.grown happ.grown (fun e=>by have:=hown.aT _ e.symm;omega),pw3.rd.below (happ.below.mono (by omega)),pw3.bK,pw3.dU⟩;have kp4:=kp3.app hown happ;have bel4:Fz h0 K.g w w4:=ae.trans (Fz.of happ.below);have hs4:=happ.below.size;have hgrow:=happ.grown;clear ae k90 kp3;have ae:=bel4;have k90:=k90';have kp:=kp4;have pwk:=pw4.av;refine Zv (aa.nilCheck rfl rfl) ?_;refine Zf 3 Tryz.underlying71 ?_;refine Zq k90 ?_;intro w1 pw1;replace ae:=ae.put k90 pw1 e90;replace kp:=kp.put k90 pw1 e90;replace k90:=pw1.av;refine bj 0 1 3 9 10 12 (ei ?_);have hb5:∀b,b<w3.heap.size→b≠gt→(Value.slice AT ts.length cT).ownBlock≠some b→w1.heap[b]? =w3.heap[b]? :=fun b h1 h2 h3=>(pw1.grown.block b (by omega) (fun e=>h2 (by injection e))).trans (hgrow.block b h1 (fun e=>h3 e.symm))
   have hvown:∀b,(Value.slice AV (ts.length+1) cV).ownBlock=some b→b≠gt:=fun b e1 e2=>by
    rcases hv' with e|e
    ·exact aq3.xS (by rw[←e,e1,e2])
    ·rw[e] at e1;injection e1 with e1;omega
   have hown5:Own w1 h0 71 4 (.slice AV (ts.length+1) cV) (ts.length+1) (aP tvs++_):=hown'.jN (Nat.le_of_eq pw1.size.symm) fun b e=>pw1.grown.block b ((hown'.aT b e).2) (fun e'=>hvown b e (by injection e'));have hlv:(aP tvs).length=ts.length*4:=hown.row.1;obtain⟨gv,cap,cur,hvv,hgv,hgvl,kv,hfit,hset⟩:=hown5.oB hlv;have hgne:gv≠gt:=hvown gv (by rw[hvv];rfl);obtain⟨rfl,rfl⟩:AV=some ⟨gv,0,none⟩∧cV=cap:=by injection hvv with h1 _ h3;exact⟨h1,h3⟩
   have haddr:(⟨gv,0,none⟩:Addr).add (ts.length*4)=⟨gv,ts.length*4,none⟩:=by unfold Addr.add;split<;>simp_all
   refine Zv (aa.bI rfl rfl rfl Tryz.underlying69 (s:=4) (by kernel_rfl) (j:=ts.length) rfl (by omega)) ?_;rw[haddr];refine Seq.jM rfl rfl rfl rfl (m:=4) (by kernel_rfl) hones.1 (iA hones.2) kv (by rw[hones.1];exact hfit) rfl rfl ?_;intro w6 p6;have hown6:=hset w6 v5.cells hones.1 p6;have kp6:Kp w w6:=kp.put kv p6 hgv;have bel6:Fz h0 K.g w w6:=ae.put kv p6 hgv;have k906:=k90.put p6 (fun e=>hgne e.symm);have pw6:PW K w6 q d false:=⟨(pwk.put pw1 (by omega)).put p6 (by omega),(pw4.rd.below (pw1.below (by omega) k90'.lt)).below (p6.below (by omega) hgvl),pw3.bK,pw3.dU⟩;have hsl:=p6.size;have hsl2:=pw1.size
   have aq6:=aq3.yK hrep (fun b hb=>⟨by have:=(haway b hb).1;omega,(haway b hb).2,by have:=(haway b hb).1;omega,fun e=>by have:=(aq2.eW.aT b e).2;have:=(haway b hb).1;omega,fun e=>by have:=(aq2.fh.aT b e).2;have:=(haway b hb).1;omega⟩) hown6 (by omega)
    (fun b _ h2 h3 h4=>(p6.grown.block b (by omega) (fun e=>by
     injection e with e
     rcases hv' with e'|e'
     ·exact h4 (by rw[←e',e];rfl)
     ·injection e' with e'
      have e':gv=w3.heap.size:=e';omega)).trans (hb5 b h2 h3 h4))
    (hv'.elim .inl fun e=> .inr ⟨_,e,Nat.le_refl _⟩) (by omega)
   refine bj 0 1 3 9 10 12 ?_;refine ab.fP rfl (.inr rfl) ?_;exact⟨bel6,_,rfl,pw6,kp6,_,_,_,_,_,k906,aq6⟩
 ·skip
  refine Cd.iC (σT:=Value × (Nat→Prop) × Nat × Value) 9 (by kernel_rfl) rfl rfl (fun σ=>[.pointer (some ⟨gt,0,none⟩), .pointer (some ⟨gt,0,none⟩), .pointer (some ⟨gt,0,none⟩), .pointer (some ⟨gt,3,none⟩), .slice AT ts.length cT, .pointer (some ⟨K.g,0,none⟩),σ.1, .slice (some ⟨σ.2.2.1,0,none⟩) 1 1,σ.2.2.2]) (fun σ S W=>(S 8=false→XA dm K w2 p d (T p d) (S 6) (S 7) σ.2.1 σ.1 σ.2.2.1 71 σ.1.cells W)∧(S 8=true→∃x q,T p d= .ok x q∧Kp w2 W∧Fz h0 K.g w2 W∧PW K W q d false∧aK W gt 71 #[.int .i64 op, .string (strOf nm), .slice AE es.length cE, .slice AT ts.length cT]∧∃S',dt W h0 gt es (ts++[x]) evs (tvs++[σ.1]) (.slice AE es.length cE) σ.2.2.2 S')) ((undef,fun _=>False,0,undef)) ?_ ?_ ?_
  ·intro w0 hb0 hs0
   exact⟨fun _=>⟨Fz.of hb0,fun _=>pw2.step hle hb0,fun h=>(by cases h),fun h=>(by cases h)⟩,fun h=>(by cases h)⟩
  ·intro k o ho
   match k,ho with
   |0,ho=>
    injection ho with ho
    subst ho;intro σ S w hS hpre hdc hX
    have hb:aK w b0 227 #[.pointer (some ⟨gt,0,none⟩)]:=by
     cases h8:S 8 with
     |false=>exact kb02.zd pw2.av (hX.1 h8).fz (Nat.le_refl _)
     |true=>obtain⟨x,q,-,hkp,-⟩:=hX.2 h8;exact hkp.av kb02
    refine Seq.val (aa.ag (g:=b0) (i:=0) rfl rfl Tryz.underlying227 rfl hb rfl) rfl rfl rfl (Seq.nil ?_);exact ab.aC rfl rfl rfl hpre rfl (fun _ _=>rfl) hX
   |1,ho=>
    injection ho with ho
    subst ho;intro σ S w hS hpre hdc hX
    have hb:aK w b0 227 #[.pointer (some ⟨gt,0,none⟩)]:=by
     cases h8:S 8 with
     |false=>exact kb02.zd pw2.av (hX.1 h8).fz (Nat.le_refl _)
     |true=>obtain⟨x,q,-,hkp,-⟩:=hX.2 h8;exact hkp.av kb02
    refine Seq.val (aa.ag (g:=b0) (i:=0) rfl rfl Tryz.underlying227 rfl hb rfl) rfl rfl rfl (Seq.nil ?_);exact ab.aC rfl rfl rfl hpre rfl (fun _ _=>rfl) hX
   |2,ho=>
    injection ho with ho
    subst ho;intro σ S w hS hpre hdc hX;refine Seq.val (aa.nilCheck rfl rfl) rfl rfl rfl (Seq.nil ?_);exact ab.aC rfl rfl rfl hpre rfl (fun _ _=>rfl) hX
   |3,ho=>
    injection ho with ho
    subst ho;intro σ S w hS hpre hdc hX;refine Seq.val (aa.fL 3 rfl rfl Tryz.underlying71 rfl (by kernel_rfl)) rfl rfl rfl (Seq.nil ?_);exact ab.aC rfl rfl rfl hpre rfl (fun _ _=>rfl) hX
   |4,ho=>
    injection ho with ho
    subst ho;intro σ S w hS hpre hdc hX
    have h8:S 8=false:=by
     cases h8:S 8 with
     |false=>rfl
     |true=>have:=hdc 8 _ rfl h8 4 (ar rfl);rw[hS] at this;cases this
    refine Seq.val (aa.ag (g:=gt) (i:=3) rfl rfl Tryz.underlying69 rfl (kt2.fz (hX.1 h8).fz (by omega)) rfl) rfl rfl rfl (Seq.nil ?_);exact ab.aC rfl rfl rfl hpre rfl (fun _ _=>rfl) hX
   |5,ho=>
    injection ho with ho
    subst ho;intro σ S w hS hpre hdc hX
    have hb:aK w b1 189 #[.pointer (some ⟨K.g,0,none⟩)]:=by
     cases h8:S 8 with
     |false=>exact kb12.zd pw2.av (hX.1 h8).fz (Nat.le_refl _)
     |true=>obtain⟨x,q,-,hkp,-⟩:=hX.2 h8;exact hkp.av kb12
    refine Seq.val (aa.ag (g:=b1) (i:=0) rfl rfl Tryz.underlying189 rfl hb rfl) rfl rfl rfl (Seq.nil ?_);exact ab.aC rfl rfl rfl hpre rfl (fun _ _=>rfl) hX
   |6,ho=>
    injection ho with ho
    subst ho;intro σ S w hS hpre hdc hX
    have h8:S 8=false:=by
     cases h8:S 8 with
     |false=>rfl
     |true=>have:=hdc 8 _ rfl h8 6 (ar rfl);rw[hS] at this;cases this
    have h7:S 7=false:=by
     cases h7:S 7 with
     |false=>rfl
     |true=>have:=hdc 7 _ rfl h7 6 (ar rfl);rw[hS] at this;cases this
    have hXa:=hX.1 h8;have hcl:=hcall w (hXa.pre hS) hXa.fz;rcases Rs.dy hne with ⟨q,ov,hr⟩|⟨x,q,hr⟩
    ·rw[hr] at hcl
     refine Seq.cS (Ze Tryz.func128) rfl hcl ?_;rintro e w6 ⟨hf,rfl,d6,hp6⟩;refine⟨_,rfl,fun a ha=>⟨ha.defers,?_⟩⟩;rw[hr];exact⟨(fz2.trans ((hXa.fz.call hf).less hs2)).less hh,rfl,d6,hp6⟩
    ·rw[hr] at hcl
     refine Zc (Ze Tryz.func128) hcl ?_;rintro e w6 ⟨hf,v6,rfl,hp6,S6,hr6,hb6⟩;refine⟨_,rfl,Seq.nil ?_⟩;have hsz:=hXa.fz.size;refine ab.aC (σ:=σ) (σ':=(v6,S6,σ.2.2.1,σ.2.2.2)) rfl rfl rfl hpre rfl (fun j hj=> ?_) ⟨fun _=>⟨hXa.fz.call hf,(fun h=>by cases h),fun _=>⟨x,q,hr,hp6,hr6,fun b hb=>⟨by have:=(hb6 b hb).1;omega,(hb6 b hb).2⟩⟩,fun hm=> ?_⟩,fun hm=> ?_⟩
     ·match j,hj with
      |0,_=>rfl
      |1,_=>rfl
      |2,_=>rfl
      |3,_=>rfl
      |4,_=>rfl
      |5,_=>rfl
      |6,hj=>rw[hS] at hj;cases hj
      |7,hj=>rw[h7] at hj;cases hj
      |8,_=>rfl
      |j+9,_=>rfl
     ·have hm:S 7=true:=hm
      rw[h7] at hm;cases hm
     ·have hm:S 8=true:=hm
      rw[h8] at hm;cases hm
   |7,ho=>
    injection ho with ho
    subst ho;intro σ S w hS hpre hdc hX
    have h8:S 8=false:=by
     cases h8:S 8 with
     |false=>rfl
     |true=>have:=hdc 8 _ rfl h8 7 (ar rfl);rw[hS] at this;cases this
    have hXa:=hX.1 h8;obtain⟨x,q,q1,q2,q3,q4⟩:=hXa.post (hpre 6 (ar rfl));have hones:=q3.aY;refine Seq.slice (vs:=[σ.1]) (s:=4) rfl rfl rfl Tryz.underlying69 (by kernel_rfl) aI (by omega) (by omega) ⟨hones.1,trivial⟩ rfl rfl rfl ?_;intro g7 w' n7;refine Seq.nil ?_;have hsz:=hXa.fz.size;have hcells:(aP [σ.1]).toArray=σ.1.cells:=by simp[aP]
    have n7b:=n7.av;rw[hcells] at n7b;refine ab.aC (σ:=σ) (σ':=(σ.1,σ.2.1,g7,σ.2.2.2)) rfl rfl rfl hpre rfl (fun j hj=> ?_) ⟨fun _=>⟨hXa.fz.step n7.below,fun h=>(hXa.pre h).step hle n7.below,fun h=> ?_,fun _=>⟨Nat.le_trans hsz n7.ge,n7b,fun h hb=> ?_⟩⟩,fun hm=> ?_⟩
    ·match j,hj with
     |0,_=>rfl
     |1,_=>rfl
     |2,_=>rfl
     |3,_=>rfl
     |4,_=>rfl
     |5,_=>rfl
     |6,_=>rfl
     |7,hj=>rw[hS] at hj;cases hj
     |8,_=>rfl
     |j+9,_=>rfl
    ·exact⟨x,q,q1,q2.step hle n7.below,q3.mono (fun _ h=>h) (fun a ha=>n7.below.cell (q4 _ ha).2),fun b hb=>⟨(q4 b hb).1,Nat.lt_of_lt_of_le (q4 b hb).2 n7.below.size⟩⟩
    ·exact Nat.lt_irrefl _ (Nat.lt_of_lt_of_le (q4 _ hb).2 n7.ge)
    ·have hm:S 8=true:=hm
     rw[h8] at hm;cases hm
   |8,ho=>
    injection ho with ho
    subst ho;intro σ S w hS hpre hdc hX;have hXa:=hX.1 hS;obtain⟨x,q,hr,pw3,hrep,haway⟩:=hXa.post (hpre 6 (ar rfl));obtain⟨e7,k7,hn7⟩:=hXa.new (hpre 7 (ar rfl));have hones:=hrep.aY;have hsz:=hXa.fz.size;have aq3:=aq2.fz hXa.fz hg0;have hown:=aq3.fh;have k90:=kt2.fz hXa.fz (by omega);refine Seq.fN rfl rfl rfl Tryz.underlying69 (by kernel_rfl) aI rfl (by decide) (b:=72) (by kernel_rfl) hown (Reads.av (size:=4) k7 1 hones.1) hones.2 (by omega) (by simp only[maxLen];omega) (by omega) rfl rfl rfl ?_;intro v' w4 hown' happ hv';refine Seq.nil ?_;have hs4:=happ.below.size
    have aq6:=aq3.yK hrep (fun b hb=>⟨by have:=(haway b hb).1;omega,(haway b hb).2,by have:=(haway b hb).1;omega,fun e=>by have:=(aq2.eW.aT b e).2;have:=(haway b hb).1;omega,fun e=>by have:=(aq2.fh.aT b e).2;have:=(haway b hb).1;omega⟩) hown' hs4
     (fun b _ h2 h3 h4=>happ.grown.block b h2 (fun e=>h4 e.symm)) (hv'.elim .inl fun e=> .inr ⟨_,e,Nat.le_refl _⟩) (by omega)
    refine ab.aC (σ:=σ) (σ':=(σ.1,σ.2.1,σ.2.2.1,v')) rfl rfl rfl hpre rfl (fun j hj=> ?_) ⟨(fun h=>by cases h),fun _=>⟨x,q,hr,((Kp.refl w2).fz pw2.av hXa.fz).app hown happ,(hXa.fz.less hh2).trans (Fz.of happ.below),⟨pw3.av.grown happ.grown (fun e=>by have:=hown.aT _ e.symm;omega),pw3.rd.below (happ.below.mono (by omega)),pw3.bK,pw3.dU⟩,k90.grown happ.grown (fun e=>aq3.xS e.symm),_,aq6⟩⟩
    match j,hj with
    |0,_=>rfl
    |1,_=>rfl
    |2,_=>rfl
    |3,_=>rfl
    |4,_=>rfl
    |5,_=>rfl
    |6,_=>rfl
    |7,_=>rfl
    |8,hj=>rw[hS] at hj;cases hj
    |j+9,_=>rfl
   |k+9,ho=>simp at ho
  ·rintro⟨v6,S6,g7,v8⟩ S w3 hS hX
   obtain⟨x,q,hr,kp3,fz3,pw3,k90,S',aq3⟩:=hX.2 (hS 8 (by decide));clear hX;dsimp only at aq3;have hs3:=fz3.size;have e90:h0≤gt:=hgt;have ae:Fz h0 K.g w w3:=(fz2.less hh).trans fz3;have kp:=kp2.trans kp3;have pwk:=pw3.av;have hlt3:=k90.lt;rw[hr];obtain⟨AX,cX,hvX,-⟩:=aq3.fh.reads;subst hvX;refine Zv (aa.nilCheck rfl rfl) ?_;refine Zf 3 Tryz.underlying71 ?_;refine Zq k90 ?_;intro w1 pw1;replace ae:=ae.put k90 pw1 e90;replace kp:=kp.put k90 pw1 e90;replace aq3:=aq3.put k90 pw1 e90;replace k90:=pw1.av;refine bD 0 1 3 ?_;have pw5:PW K w1 q d false:=⟨pwk.put pw1 (by omega),pw3.rd.below (pw1.below (by omega) hlt3),pw3.bK,pw3.dU⟩;refine ab.fP rfl (.inr rfl) ?_;exact⟨ae,_,rfl,pw5,kp,_,_,_,_,_,k90,aq3⟩
theorem yO (K:Ctx)(hK:K.Ok)(h0 gt b0 b1 d p:Nat)(op:Int)(nm:List Nat)(es:List Ex)(ts:List Tm)(evs tvs:List Value)(vE vT:Value)(S0:Nat→Prop)(T:Nat→Nat→Rs Ex)(w:World)(pw:PW K w p d false)(hg0:K.g<h0)(hgt:h0≤gt)(hh:h0≤w.heap.size)
  (kt:aK w gt 71 #[.int .i64 op, .string (strOf nm),vE,vT]) (kb0:aK w b0 227 #[.pointer (some ⟨gt,0,none⟩)]) (kb1:aK w b1 189 #[.pointer (some ⟨K.g,0,none⟩)]) (aq:dt w h0 gt es ts evs tvs vE vT S0) (hl:es.length≤10)
  (hc:∀W,PW K W p d false→Fz w.heap.size K.g w W→Calls Tryz.prog 151 #[.pointer (some ⟨K.g,0,none⟩), .int .i64 0] W (PR K W d (T p d) (nN W))) (hne:T p d≠ .out):
  Calls Tryz.prog 211 #[.pointer (some ⟨b0,0,none⟩), .pointer (some ⟨b1,0,none⟩)] w (tX K h0 w d (T p d) fun x _ W'=>Kp w W'∧∃evs tvs vE vT S,aK W' gt 71 #[.int .i64 op, .string (strOf nm),vE,vT]∧dt W' h0 gt (es++[x]) ts evs tvs vE vT S):=by
 have hle:=hK.le;have hgg:K.g<w.heap.size:=pw.av.lt;have hgtl:gt<w.heap.size:=kt.lt;obtain⟨AE,cE,rfl,-⟩:=aq.eW.reads;obtain⟨AT,cT,rfl,-⟩:=aq.fh.reads;refine Zs 27 Tryz.func211 ?_;refine Cd.seq ?_;refine Cd.iC (σT:=Nat × Bool) 3 (by kernel_rfl) rfl rfl (fun σ=>[.pointer (some ⟨σ.1,0,none⟩),undef,undef]) (fun σ S W=>Below w.heap.size w W∧(S 0=true→w.heap.size≤σ.1∧aK W σ.1 4 #[.bool σ.2])) ((0,false)) ?_ ?_ ?_
 ·intro w0 hb0 hs0
  exact⟨hb0,fun h=>by cases h⟩
 ·intro k o ho
  match k,ho with
  |0,ho=>
   injection ho with ho
   subst ho;intro σ S w hS hpre hdc hX;refine Zl nC ?_;intro g2 w' n2;refine Seq.nil ?_;exact ab.aC (σ:=σ) (σ':=(g2,false)) rfl rfl rfl hpre rfl (fun j hj=>by cases j with|zero=>rw[hS] at hj;cases hj|succ j=>rfl) ⟨hX.1.trans (n2.below.mono hX.1.size),fun _=>⟨Nat.le_trans hX.1.size n2.ge,n2.av⟩⟩
  |1,ho=>
   injection ho with ho
   subst ho;intro σ S w hS hpre hdc hX;have h2:=hX.2 (hpre 0 (ar rfl));refine Zq h2.2 ?_;intro w' pq;refine Seq.nil ?_;exact ab.lq (σ:=σ) (σ':=(σ.1,true)) rfl rfl rfl (fun _ _=>rfl) ⟨pq.jm hX.1 h2.1 h2.2.lt,fun _=>⟨h2.1,pq.av⟩⟩
  |2,ho=>
   injection ho with ho
   subst ho;intro σ S w hS hpre hdc hX;have h2:=hX.2 (hpre 0 (ar rfl));refine Zq h2.2 ?_;intro w' pq;refine Seq.nil ?_;exact ab.lq (σ:=σ) (σ':=(σ.1,false)) rfl rfl rfl (fun _ _=>rfl) ⟨pq.jm hX.1 h2.1 h2.2.lt,fun _=>⟨h2.1,pq.av⟩⟩
  |k+3,ho=>simp at ho
 rintro⟨g2,b2⟩ S w2 hS ⟨bel2,hX⟩;obtain⟨e2,k2⟩:=hX (hS 0 (by decide));dsimp only at e2 k2;have pw2:=pw.step hle bel2;have kt2:=kt.step bel2;have kb02:=kb0.step bel2;have kb12:=kb1.step bel2;have aq2:=aq.step bel2;have hs2:=bel2.size;have fz2:Fz w.heap.size K.g w w2:=Fz.of bel2;have kp2:Kp w w2:=(Kp.refl w).step bel2;have hh2:h0≤w2.heap.size:=by omega
 clear pw kt kb0 kb1 aq hX;have hcall:∀W,PW K W p d false→Fz w2.heap.size K.g w2 W→Calls Tryz.prog 151 #[.pointer (some ⟨K.g,0,none⟩), .int .i64 0] W (PR K W d (T p d) (nN W)):=fun W h1 h2=>hc W h1 (fz2.trans (h2.less hs2));refine Zv (aa.ag rfl rfl Tryz.underlying4 rfl k2 rfl) ?_;refine bD 0 1 3 (Zt ?_);refine Cd.cond rfl (fun hcn=> ?_) (fun hcn=> ?_)
 ·skip
  refine Cd.seq ?_;refine Cd.iC (σT:=Value × (Nat→Prop) × Nat) 8 (by kernel_rfl) rfl rfl (fun σ=>[.pointer (some ⟨gt,0,none⟩), .pointer (some ⟨gt,0,none⟩), .pointer (some ⟨gt,2,none⟩), .slice AE es.length cE, .pointer (some ⟨K.g,0,none⟩),σ.1, .int .i64 (es.length:Int), .slice (some ⟨σ.2.2,0,none⟩) 1 1]) (fun σ S W=>XA cw K w2 p d (T p d) (S 5) (S 7) σ.2.1 σ.1 σ.2.2 105 #[.int .i64 0, .int .i64 0, .string {data:= #[]}, .slice none 0 0] W) ((undef,fun _=>False,0)) ?_ ?_ ?_
  ·intro w0 hb0 hs0
   exact⟨Fz.of hb0,fun _=>pw2.step hle hb0,fun h=>(by cases h),fun h=>(by cases h)⟩
  ·intro k o ho
   match k,ho with
   |0,ho=>
    injection ho with ho
    subst ho;intro σ S w hS hpre hdc hX;refine Seq.val (aa.ag (g:=b0) (i:=0) rfl rfl Tryz.underlying227 rfl (kb02.zd pw2.av hX.fz (Nat.le_refl _)) rfl) rfl rfl rfl (Seq.nil ?_);exact ab.aC rfl rfl rfl hpre rfl (fun _ _=>rfl) hX
   |1,ho=>
    injection ho with ho
    subst ho;intro σ S w hS hpre hdc hX;refine Seq.val (aa.nilCheck rfl rfl) rfl rfl rfl (Seq.nil ?_);exact ab.aC rfl rfl rfl hpre rfl (fun _ _=>rfl) hX
   |2,ho=>
    injection ho with ho
    subst ho;intro σ S w hS hpre hdc hX;refine Seq.val (aa.fL 2 rfl rfl Tryz.underlying71 rfl (by kernel_rfl)) rfl rfl rfl (Seq.nil ?_);exact ab.aC rfl rfl rfl hpre rfl (fun _ _=>rfl) hX
   |3,ho=>
    injection ho with ho
    subst ho;intro σ S w hS hpre hdc hX;refine Seq.val (aa.ag (g:=gt) (i:=2) rfl rfl Tryz.underlying68 rfl (kt2.fz hX.fz (by omega)) rfl) rfl rfl rfl (Seq.nil ?_);exact ab.aC rfl rfl rfl hpre rfl (fun _ _=>rfl) hX
   |4,ho=>
    injection ho with ho
    subst ho;intro σ S w hS hpre hdc hX;refine Seq.val (aa.ag (g:=b1) (i:=0) rfl rfl Tryz.underlying189 rfl (kb12.zd pw2.av hX.fz (Nat.le_refl _)) rfl) rfl rfl rfl (Seq.nil ?_);exact ab.aC rfl rfl rfl hpre rfl (fun _ _=>rfl) hX
   |5,ho=>
    injection ho with ho
    subst ho;intro σ S w hS hpre hdc hX;have hcl:=hcall w (hX.pre hS) hX.fz;rcases Rs.dy hne with ⟨q,ov,hr⟩|⟨x,q,hr⟩
    ·rw[hr] at hcl
     refine Seq.cS (Ze Tryz.func151) rfl hcl ?_;rintro e w6 ⟨hf,rfl,d6,hp6⟩;refine⟨_,rfl,fun a ha=>⟨ha.defers,?_⟩⟩;rw[hr];exact⟨(fz2.trans ((hX.fz.call hf).less hs2)).less hh,rfl,d6,hp6⟩
    ·rw[hr] at hcl
     refine Zc (Ze Tryz.func151) hcl ?_;rintro e w6 ⟨hf,v6,rfl,hp6,S6,hr6,hb6⟩;refine⟨_,rfl,Seq.nil ?_⟩;have hsz:=hX.fz.size;refine ab.aC (σ:=σ) (σ':=(v6,S6,σ.2.2)) rfl rfl rfl hpre rfl (fun j hj=> ?_) ⟨hX.fz.call hf,(fun h=>by cases h),fun _=>⟨x,q,hr,hp6,hr6,fun b hb=>⟨by have:=(hb6 b hb).1;omega,(hb6 b hb).2⟩⟩,fun hm=> ?_⟩
     ·match j,hj with
      |0,_=>rfl
      |1,_=>rfl
      |2,_=>rfl
      |3,_=>rfl
      |4,_=>rfl
      |5,hj=>rw[hS] at hj;cases hj
      |6,_=>rfl
      |7,_=>rfl
      |j+8,_=>rfl
     ·obtain⟨m1,m2,-⟩:=hX.new hm
      exact⟨m1,m2.fz hf (by omega),fun _ hb=>Nat.lt_irrefl _ (Nat.lt_of_lt_of_le m2.lt (hb6 _ hb).1)⟩
   |6,ho=>
    injection ho with ho
    subst ho;intro σ S w hS hpre hdc hX;refine Seq.val (aa.len rfl rfl Tryz.underlying68) rfl rfl rfl (Seq.nil ?_);exact ab.aC rfl rfl rfl hpre rfl (fun _ _=>rfl) hX
   |7,ho=>
    injection ho with ho
    subst ho;intro σ S w hS hpre hdc hX;refine Seq.slice (vs:=[.agg #[.int .i64 0, .int .i64 0, .string {data:= #[]}, .slice none 0 0]]) (s:=4) rfl rfl rfl Tryz.underlying68 (by kernel_rfl) ay (by omega) (by omega) ⟨rfl,trivial⟩ rfl rfl rfl ?_;intro g7 w' n7;refine Seq.nil ?_;have hsz:=hX.fz.size;refine ab.aC (σ:=σ) (σ':=(σ.1,σ.2.1,g7)) rfl rfl rfl hpre rfl (fun j hj=> ?_) ⟨hX.fz.step n7.below,fun h=>(hX.pre h).step hle n7.below,fun h=> ?_,fun _=>⟨Nat.le_trans hsz n7.ge,n7.av,fun h hb=> ?_⟩⟩
    ·match j,hj with
     |0,_=>rfl
     |1,_=>rfl
     |2,_=>rfl
     |3,_=>rfl
     |4,_=>rfl
     |5,_=>rfl
     |6,_=>rfl
     |7,hj=>rw[hS] at hj;cases hj
     |j+8,_=>rfl
    ·obtain⟨x,q,q1,q2,q3,q4⟩:=hX.post h
     exact⟨x,q,q1,q2.step hle n7.below,q3.mono (fun _ h=>h) (fun a ha=>n7.below.cell (q4 _ ha).2),fun b hb=>⟨(q4 b hb).1,Nat.lt_of_lt_of_le (q4 b hb).2 n7.below.size⟩⟩
    ·obtain⟨x,q,q1,q2,q3,q4⟩:=hX.post h
     exact Nat.lt_irrefl _ (Nat.lt_of_lt_of_le (q4 _ hb).2 n7.ge)
   |k+8,ho=>simp at ho
  ·rintro⟨v5,S5,g7⟩ S w3 hS hX
   obtain⟨x,q,hr,pw3,hrep,haway⟩:=hX.post (hS 5 (by decide));obtain⟨e7,k7,hn7⟩:=hX.new (hS 7 (by decide));dsimp only at hrep haway e7 k7;have fz3:=hX.fz;clear hX;have hs3:=fz3.size;have k90:=kt2.fz fz3 (by omega);have aq3:=aq2.fz fz3 hg0;have kp3:Kp w w3:=kp2.fz pw2.av fz3;have e90:h0≤gt:=hgt;have ae:Fz h0 K.g w w3:=(fz2.trans (fz3.less hs2)).less hh;have hh3:h0≤w3.heap.size:=by omega
   have hown:=aq3.eW;have hones:=hrep.aY;rw[hr];refine Seq.fN rfl rfl rfl Tryz.underlying68 (by kernel_rfl) ay rfl (by decide) (b:=56) (by kernel_rfl) hown (Reads.av (size:=4) k7 1 rfl) (by intro z hz;simp at hz;rcases hz with rfl|rfl|rfl|rfl<;>rfl) hh3 (by simp only[maxLen];omega) (by omega) rfl rfl rfl ?_;intro v' w4 hown' happ hv';obtain⟨AV,cV,hvV,-⟩:=hown'.reads;subst hvV;have k90':=k90.grown happ.grown (fun e=>aq3.zi e.symm);have pw4:PW K w4 q d false:=⟨pw3.av.grown happ.grown (fun e=>by have:=hown.aT _ e.symm;omega),pw3.rd.below (happ.below.mono (by omega)),pw3.bK,pw3.dU⟩;have kp4:=kp3.app hown happ;have bel4:Fz h0 K.g w w4:=ae.trans (Fz.of happ.below);have hs4:=happ.below.size;have hgrow:=happ.grown;clear ae k90 kp3;have ae:=bel4;have k90:=k90';have kp:=kp4;have pwk:=pw4.av;refine Zv (aa.nilCheck rfl rfl) ?_;refine Zf 2 Tryz.underlying71 ?_;refine Zq k90 ?_;intro w1 pw1;replace ae:=ae.put k90 pw1 e90;replace kp:=kp.put k90 pw1 e90;replace k90:=pw1.av;refine bj 0 1 3 9 10 12 (ei ?_);have hb5:∀b,b<w3.heap.size→b≠gt→(Value.slice AE es.length cE).ownBlock≠some b→w1.heap[b]? =w3.heap[b]? :=fun b h1 h2 h3=>(pw1.grown.block b (by omega) (fun e=>h2 (by injection e))).trans (hgrow.block b h1 (fun e=>h3 e.symm))
   have hvown:∀b,(Value.slice AV (es.length+1) cV).ownBlock=some b→b≠gt:=fun b e1 e2=>by
    rcases hv' with e|e
    ·exact aq3.zi (by rw[←e,e1,e2])
    ·rw[e] at e1;injection e1 with e1;omega
   have hown5:Own w1 h0 105 4 (.slice AV (es.length+1) cV) (es.length+1) (aP evs++_):=hown'.jN (Nat.le_of_eq pw1.size.symm) fun b e=>pw1.grown.block b ((hown'.aT b e).2) (fun e'=>hvown b e (by injection e'));have hlv:(aP evs).length=es.length*4:=hown.row.1;obtain⟨gv,cap,cur,hvv,hgv,hgvl,kv,hfit,hset⟩:=hown5.oB hlv;have hgne:gv≠gt:=hvown gv (by rw[hvv];rfl);obtain⟨rfl,rfl⟩:AV=some ⟨gv,0,none⟩∧cV=cap:=by injection hvv with h1 _ h3;exact⟨h1,h3⟩
   have haddr:(⟨gv,0,none⟩:Addr).add (es.length*4)=⟨gv,es.length*4,none⟩:=by unfold Addr.add;split<;>simp_all
   refine Zv (aa.bI rfl rfl rfl Tryz.underlying68 (s:=4) (by kernel_rfl) (j:=es.length) rfl (by omega)) ?_;rw[haddr];refine Seq.jM rfl rfl rfl rfl (m:=4) (by kernel_rfl) hones.1 (iA hones.2) kv (by rw[hones.1];exact hfit) rfl rfl ?_;intro w6 p6;have hown6:=hset w6 v5.cells hones.1 p6;have kp6:Kp w w6:=kp.put kv p6 hgv;have bel6:Fz h0 K.g w w6:=ae.put kv p6 hgv;have k906:=k90.put p6 (fun e=>hgne e.symm);have pw6:PW K w6 q d false:=⟨(pwk.put pw1 (by omega)).put p6 (by omega),(pw4.rd.below (pw1.below (by omega) k90'.lt)).below (p6.below (by omega) hgvl),pw3.bK,pw3.dU⟩;have hsl:=p6.size;have hsl2:=pw1.size
   have aq6:=aq3.Bz hrep (fun b hb=>⟨by have:=(haway b hb).1;omega,(haway b hb).2,by have:=(haway b hb).1;omega,fun e=>by have:=(aq2.eW.aT b e).2;have:=(haway b hb).1;omega,fun e=>by have:=(aq2.fh.aT b e).2;have:=(haway b hb).1;omega⟩) hown6 (by omega)
    (fun b _ h2 h3 h4=>(p6.grown.block b (by omega) (fun e=>by
     injection e with e
     rcases hv' with e'|e'
     ·exact h4 (by rw[←e',e];rfl)
     ·injection e' with e'
      have e':gv=w3.heap.size:=e';omega)).trans (hb5 b h2 h3 h4))
    (hv'.elim .inl fun e=> .inr ⟨_,e,Nat.le_refl _⟩) (by omega)
   refine bj 0 1 3 9 10 12 ?_;refine ab.fP rfl (.inr rfl) ?_;exact⟨bel6,_,rfl,pw6,kp6,_,_,_,_,_,k906,aq6⟩
 ·skip
  refine Cd.iC (σT:=Value × (Nat→Prop) × Nat × Value) 9 (by kernel_rfl) rfl rfl (fun σ=>[.pointer (some ⟨gt,0,none⟩), .pointer (some ⟨gt,0,none⟩), .pointer (some ⟨gt,0,none⟩), .pointer (some ⟨gt,2,none⟩), .slice AE es.length cE, .pointer (some ⟨K.g,0,none⟩),σ.1, .slice (some ⟨σ.2.2.1,0,none⟩) 1 1,σ.2.2.2]) (fun σ S W=>(S 8=false→XA cw K w2 p d (T p d) (S 6) (S 7) σ.2.1 σ.1 σ.2.2.1 105 σ.1.cells W)∧(S 8=true→∃x q,T p d= .ok x q∧Kp w2 W∧Fz h0 K.g w2 W∧PW K W q d false∧aK W gt 71 #[.int .i64 op, .string (strOf nm), .slice AE es.length cE, .slice AT ts.length cT]∧∃S',dt W h0 gt (es++[x]) ts (evs++[σ.1]) tvs σ.2.2.2 (.slice AT ts.length cT) S')) ((undef,fun _=>False,0,undef)) ?_ ?_ ?_
  ·intro w0 hb0 hs0
   exact⟨fun _=>⟨Fz.of hb0,fun _=>pw2.step hle hb0,fun h=>(by cases h),fun h=>(by cases h)⟩,fun h=>(by cases h)⟩
  ·intro k o ho
   match k,ho with
   |0,ho=>
    injection ho with ho
    subst ho;intro σ S w hS hpre hdc hX
    have hb:aK w b0 227 #[.pointer (some ⟨gt,0,none⟩)]:=by
     cases h8:S 8 with
     |false=>exact kb02.zd pw2.av (hX.1 h8).fz (Nat.le_refl _)
     |true=>obtain⟨x,q,-,hkp,-⟩:=hX.2 h8;exact hkp.av kb02
    refine Seq.val (aa.ag (g:=b0) (i:=0) rfl rfl Tryz.underlying227 rfl hb rfl) rfl rfl rfl (Seq.nil ?_);exact ab.aC rfl rfl rfl hpre rfl (fun _ _=>rfl) hX
   |1,ho=>
    injection ho with ho
    subst ho;intro σ S w hS hpre hdc hX
    have hb:aK w b0 227 #[.pointer (some ⟨gt,0,none⟩)]:=by
     cases h8:S 8 with
     |false=>exact kb02.zd pw2.av (hX.1 h8).fz (Nat.le_refl _)
     |true=>obtain⟨x,q,-,hkp,-⟩:=hX.2 h8;exact hkp.av kb02
    refine Seq.val (aa.ag (g:=b0) (i:=0) rfl rfl Tryz.underlying227 rfl hb rfl) rfl rfl rfl (Seq.nil ?_);exact ab.aC rfl rfl rfl hpre rfl (fun _ _=>rfl) hX
   |2,ho=>
    injection ho with ho
    subst ho;intro σ S w hS hpre hdc hX;refine Seq.val (aa.nilCheck rfl rfl) rfl rfl rfl (Seq.nil ?_);exact ab.aC rfl rfl rfl hpre rfl (fun _ _=>rfl) hX
   |3,ho=>
    injection ho with ho
    subst ho;intro σ S w hS hpre hdc hX;refine Seq.val (aa.fL 2 rfl rfl Tryz.underlying71 rfl (by kernel_rfl)) rfl rfl rfl (Seq.nil ?_);exact ab.aC rfl rfl rfl hpre rfl (fun _ _=>rfl) hX
   |4,ho=>
    injection ho with ho
    subst ho;intro σ S w hS hpre hdc hX
    have h8:S 8=false:=by
     cases h8:S 8 with
     |false=>rfl
     |true=>have:=hdc 8 _ rfl h8 4 (ar rfl);rw[hS] at this;cases this
    refine Seq.val (aa.ag (g:=gt) (i:=2) rfl rfl Tryz.underlying68 rfl (kt2.fz (hX.1 h8).fz (by omega)) rfl) rfl rfl rfl (Seq.nil ?_);exact ab.aC rfl rfl rfl hpre rfl (fun _ _=>rfl) hX
   |5,ho=>
    injection ho with ho
    subst ho;intro σ S w hS hpre hdc hX
    have hb:aK w b1 189 #[.pointer (some ⟨K.g,0,none⟩)]:=by
     cases h8:S 8 with
     |false=>exact kb12.zd pw2.av (hX.1 h8).fz (Nat.le_refl _)
     |true=>obtain⟨x,q,-,hkp,-⟩:=hX.2 h8;exact hkp.av kb12
    refine Seq.val (aa.ag (g:=b1) (i:=0) rfl rfl Tryz.underlying189 rfl hb rfl) rfl rfl rfl (Seq.nil ?_);exact ab.aC rfl rfl rfl hpre rfl (fun _ _=>rfl) hX
   |6,ho=>
    injection ho with ho
    subst ho;intro σ S w hS hpre hdc hX
    have h8:S 8=false:=by
     cases h8:S 8 with
     |false=>rfl
     |true=>have:=hdc 8 _ rfl h8 6 (ar rfl);rw[hS] at this;cases this
    have h7:S 7=false:=by
     cases h7:S 7 with
     |false=>rfl
     |true=>have:=hdc 7 _ rfl h7 6 (ar rfl);rw[hS] at this;cases this
    have hXa:=hX.1 h8;have hcl:=hcall w (hXa.pre hS) hXa.fz;rcases Rs.dy hne with ⟨q,ov,hr⟩|⟨x,q,hr⟩
    ·rw[hr] at hcl
     refine Seq.cS (Ze Tryz.func151) rfl hcl ?_;rintro e w6 ⟨hf,rfl,d6,hp6⟩;refine⟨_,rfl,fun a ha=>⟨ha.defers,?_⟩⟩;rw[hr];exact⟨(fz2.trans ((hXa.fz.call hf).less hs2)).less hh,rfl,d6,hp6⟩
    ·rw[hr] at hcl
     refine Zc (Ze Tryz.func151) hcl ?_;rintro e w6 ⟨hf,v6,rfl,hp6,S6,hr6,hb6⟩;refine⟨_,rfl,Seq.nil ?_⟩;have hsz:=hXa.fz.size;refine ab.aC (σ:=σ) (σ':=(v6,S6,σ.2.2.1,σ.2.2.2)) rfl rfl rfl hpre rfl (fun j hj=> ?_) ⟨fun _=>⟨hXa.fz.call hf,(fun h=>by cases h),fun _=>⟨x,q,hr,hp6,hr6,fun b hb=>⟨by have:=(hb6 b hb).1;omega,(hb6 b hb).2⟩⟩,fun hm=> ?_⟩,fun hm=> ?_⟩
     ·match j,hj with
      |0,_=>rfl
      |1,_=>rfl
      |2,_=>rfl
      |3,_=>rfl
      |4,_=>rfl
      |5,_=>rfl
      |6,hj=>rw[hS] at hj;cases hj
      |7,hj=>rw[h7] at hj;cases hj
      |8,_=>rfl
      |j+9,_=>rfl
     ·have hm:S 7=true:=hm
      rw[h7] at hm;cases hm
     ·have hm:S 8=true:=hm
      rw[h8] at hm;cases hm
   |7,ho=>
    injection ho with ho
    subst ho;intro σ S w hS hpre hdc hX
    have h8:S 8=false:=by
     cases h8:S 8 with
     |false=>rfl
     |true=>have:=hdc 8 _ rfl h8 7 (ar rfl);rw[hS] at this;cases this
    have hXa:=hX.1 h8;obtain⟨x,q,q1,q2,q3,q4⟩:=hXa.post (hpre 6 (ar rfl));have hones:=q3.aY;refine Seq.slice (vs:=[σ.1]) (s:=4) rfl rfl rfl Tryz.underlying68 (by kernel_rfl) ay (by omega) (by omega) ⟨hones.1,trivial⟩ rfl rfl rfl ?_;intro g7 w' n7;refine Seq.nil ?_;have hsz:=hXa.fz.size;have hcells:(aP [σ.1]).toArray=σ.1.cells:=by simp[aP]
    have n7b:=n7.av;rw[hcells] at n7b;refine ab.aC (σ:=σ) (σ':=(σ.1,σ.2.1,g7,σ.2.2.2)) rfl rfl rfl hpre rfl (fun j hj=> ?_) ⟨fun _=>⟨hXa.fz.step n7.below,fun h=>(hXa.pre h).step hle n7.below,fun h=> ?_,fun _=>⟨Nat.le_trans hsz n7.ge,n7b,fun h hb=> ?_⟩⟩,fun hm=> ?_⟩
    ·match j,hj with
     |0,_=>rfl
     |1,_=>rfl
     |2,_=>rfl
     |3,_=>rfl
     |4,_=>rfl
     |5,_=>rfl
     |6,_=>rfl
     |7,hj=>rw[hS] at hj;cases hj
     |8,_=>rfl
     |j+9,_=>rfl
    ·exact⟨x,q,q1,q2.step hle n7.below,q3.mono (fun _ h=>h) (fun a ha=>n7.below.cell (q4 _ ha).2),fun b hb=>⟨(q4 b hb).1,Nat.lt_of_lt_of_le (q4 b hb).2 n7.below.size⟩⟩
    ·exact Nat.lt_irrefl _ (Nat.lt_of_lt_of_le (q4 _ hb).2 n7.ge)
    ·have hm:S 8=true:=hm
     rw[h8] at hm;cases hm
   |8,ho=>
    injection ho with ho
    subst ho;intro σ S w hS hpre hdc hX;have hXa:=hX.1 hS;obtain⟨x,q,hr,pw3,hrep,haway⟩:=hXa.post (hpre 6 (ar rfl));obtain⟨e7,k7,hn7⟩:=hXa.new (hpre 7 (ar rfl));have hones:=hrep.aY;have hsz:=hXa.fz.size;have aq3:=aq2.fz hXa.fz hg0;have hown:=aq3.eW;have k90:=kt2.fz hXa.fz (by omega);refine Seq.fN rfl rfl rfl Tryz.underlying68 (by kernel_rfl) ay rfl (by decide) (b:=56) (by kernel_rfl) hown (Reads.av (size:=4) k7 1 hones.1) hones.2 (by omega) (by simp only[maxLen];omega) (by omega) rfl rfl rfl ?_;intro v' w4 hown' happ hv';refine Seq.nil ?_;have hs4:=happ.below.size
    have aq6:=aq3.Bz hrep (fun b hb=>⟨by have:=(haway b hb).1;omega,(haway b hb).2,by have:=(haway b hb).1;omega,fun e=>by have:=(aq2.eW.aT b e).2;have:=(haway b hb).1;omega,fun e=>by have:=(aq2.fh.aT b e).2;have:=(haway b hb).1;omega⟩) hown' hs4
     (fun b _ h2 h3 h4=>happ.grown.block b h2 (fun e=>h4 e.symm)) (hv'.elim .inl fun e=> .inr ⟨_,e,Nat.le_refl _⟩) (by omega)
    refine ab.aC (σ:=σ) (σ':=(σ.1,σ.2.1,σ.2.2.1,v')) rfl rfl rfl hpre rfl (fun j hj=> ?_) ⟨(fun h=>by cases h),fun _=>⟨x,q,hr,((Kp.refl w2).fz pw2.av hXa.fz).app hown happ,(hXa.fz.less hh2).trans (Fz.of happ.below),⟨pw3.av.grown happ.grown (fun e=>by have:=hown.aT _ e.symm;omega),pw3.rd.below (happ.below.mono (by omega)),pw3.bK,pw3.dU⟩,k90.grown happ.grown (fun e=>aq3.zi e.symm),_,aq6⟩⟩
    match j,hj with
    |0,_=>rfl
    |1,_=>rfl
    |2,_=>rfl
    |3,_=>rfl
    |4,_=>rfl
    |5,_=>rfl
    |6,_=>rfl
    |7,_=>rfl
    |8,hj=>rw[hS] at hj;cases hj
    |j+9,_=>rfl
   |k+9,ho=>simp at ho
  ·rintro⟨v6,S6,g7,v8⟩ S w3 hS hX
   obtain⟨x,q,hr,kp3,fz3,pw3,k90,S',aq3⟩:=hX.2 (hS 8 (by decide));clear hX;dsimp only at aq3;have hs3:=fz3.size;have e90:h0≤gt:=hgt;have ae:Fz h0 K.g w w3:=(fz2.less hh).trans fz3;have kp:=kp2.trans kp3;have pwk:=pw3.av;have hlt3:=k90.lt;rw[hr];obtain⟨AX,cX,hvX,-⟩:=aq3.eW.reads;subst hvX;refine Zv (aa.nilCheck rfl rfl) ?_;refine Zf 2 Tryz.underlying71 ?_;refine Zq k90 ?_;intro w1 pw1;replace ae:=ae.put k90 pw1 e90;replace kp:=kp.put k90 pw1 e90;replace aq3:=aq3.put k90 pw1 e90;replace k90:=pw1.av;refine bD 0 1 3 ?_;have pw5:PW K w1 q d false:=⟨pwk.put pw1 (by omega),pw3.rd.below (pw1.below (by omega) hlt3),pw3.bK,pw3.dU⟩;refine ab.fP rfl (.inr rfl) ?_;exact⟨ae,_,rfl,pw5,kp,_,_,_,_,_,k90,aq3⟩
structure XB (K:Ctx)(h0 gt d q:Nat)(op z:Int)(nm:List Nat)(m:Nat)(base:List Value)(vE:Value)(gv cap:Nat)(v:Value)(set stored:Bool)(w2 W3 w:World):Prop where
 own:Own w h0 105 4 (.slice (some ⟨gv,0,none⟩) (m+1) cap) (m+1) (base++(bif set then v.cells.toList else [.int .i64 0, .int .i64 0, .string {data:= #[]}, .slice none 0 0]))
 box:aK w gt 105 #[.int .i64 op, .int .i64 z, .string (strOf nm),bif stored then .slice (some ⟨gv,0,none⟩) (m+1) cap else vE]
 pw:PW K w q d false
 kp:Kp w2 w
 fz:Fz h0 K.g w2 w
 hs:W3.heap.size≤w.heap.size
 hb:∀b,b<W3.heap.size→b≠gt→vE.ownBlock≠some b→w.heap[b]? =W3.heap[b]?
 hv:some gv=vE.ownBlock∨gv=W3.heap.size
 ne:gv≠gt
theorem uc (K:Ctx)(hK:K.Ok)(h0 gt b1 d p:Nat)(op z:Int)(nm:List Nat)(es:List Ex)(evs:List Value)(vE:Value)(S0:Nat→Prop)(T:Nat→Nat→Rs Ex)(wa:World)(pw:PW K wa p d false)(hg0:K.g<h0)(hgt:h0≤gt)(hh:h0≤wa.heap.size)
  (kt:aK wa gt 105 #[.int .i64 op, .int .i64 z, .string (strOf nm),vE]) (kb1:aK wa b1 189 #[.pointer (some ⟨K.g,0,none⟩)]) (aq:dt wa h0 gt es [] evs [] vE (.slice none 0 0) S0) (hl:es.length≤10)
  (hc:∀W,PW K W p d false→Fz wa.heap.size K.g wa W→Calls Tryz.prog 151 #[.pointer (some ⟨K.g,0,none⟩), .int .i64 0] W (PR K W d (T p d) (nN W))) (hne:T p d≠ .out):
  Calls Tryz.prog 242 #[.pointer (some ⟨gt,0,none⟩), .pointer (some ⟨b1,0,none⟩)] wa (tX K h0 wa d (T p d) fun x _ W'=>Kp wa W'∧∃evs vE S,aK W' gt 105 #[.int .i64 op, .int .i64 z, .string (strOf nm),vE]∧dt W' h0 gt (es++[x]) [] evs [] vE (.slice none 0 0) S):=by
 have hle:=hK.le;have hgg:K.g<wa.heap.size:=pw.av.lt;have hgtl:gt<wa.heap.size:=kt.lt;obtain⟨AE,cE,rfl,-⟩:=aq.eW.reads;refine Zs 11 Tryz.func242 ?_;refine Cd.iC (σT:=Value × (Nat→Prop) × Nat × Nat × Nat × World) 11 (by kernel_rfl) rfl rfl (fun σ=>[.pointer (some ⟨gt,3,none⟩), .slice AE es.length cE, .pointer (some ⟨K.g,0,none⟩),σ.1, .int .i64 (es.length:Int), .slice (some ⟨σ.2.2.1,0,none⟩) 1 1, .slice (some ⟨σ.2.2.2.1,0,none⟩) (es.length+1) σ.2.2.2.2.1, .pointer (some ((⟨σ.2.2.2.1,0,none⟩:Addr).add (es.length*4))),undef, .pointer (some ⟨gt,3,none⟩),undef]) (fun σ S W=>(S 6=false→XA cw K wa p d (T p d) (S 3) (S 5) σ.2.1 σ.1 σ.2.2.1 105 #[.int .i64 0, .int .i64 0, .string {data:= #[]}, .slice none 0 0] W)∧(S 6=true→∃x q,T p d= .ok x q∧XA cw K wa p d (T p d) true true σ.2.1 σ.1 σ.2.2.1 105 #[.int .i64 0, .int .i64 0, .string {data:= #[]}, .slice none 0 0] σ.2.2.2.2.2∧XB K h0 gt d q op z nm es.length (aP evs) (.slice AE es.length cE) σ.2.2.2.1 σ.2.2.2.2.1 σ.1 (S 8) (S 10) wa σ.2.2.2.2.2 W)) ((undef,fun _=>False,0,0,0,wa)) ?_ ?_ ?_
 ·intro w0 hb0 hs0
  exact⟨fun _=>⟨Fz.of hb0,fun _=>pw.step hle hb0,fun h=>(by cases h),fun h=>(by cases h)⟩,fun h=>(by cases h)⟩
 ·intro k o ho
  match k,ho with
  |0,ho=>
   injection ho with ho
   subst ho;intro σ S w hS hpre hdc hX;refine Seq.val (aa.fL 3 rfl rfl Tryz.underlying105 rfl (by kernel_rfl)) rfl rfl rfl (Seq.nil ?_);exact ab.aC rfl rfl rfl hpre rfl (fun _ _=>rfl) hX
  |1,ho=>
   injection ho with ho
   subst ho;intro σ S w hS hpre hdc hX
   have h6:S 6=false:=by
    cases h6:S 6 with
    |false=>rfl
    |true=>have:=hdc 6 _ rfl h6 1 (ar rfl);rw[hS] at this;cases this
   refine Seq.val (aa.ag (g:=gt) (i:=3) rfl rfl Tryz.underlying68 rfl (kt.fz (hX.1 h6).fz (by omega)) rfl) rfl rfl rfl (Seq.nil ?_);exact ab.aC rfl rfl rfl hpre rfl (fun _ _=>rfl) hX
  |2,ho=>
   injection ho with ho
   subst ho;intro σ S w hS hpre hdc hX
   have hb:aK w b1 189 #[.pointer (some ⟨K.g,0,none⟩)]:=by
    cases h6:S 6 with
    |false=>exact kb1.zd pw.av (hX.1 h6).fz (Nat.le_refl _)
    |true=>obtain⟨x,q,-,-,hB⟩:=hX.2 h6;exact hB.kp.av kb1
   refine Seq.val (aa.ag (g:=b1) (i:=0) rfl rfl Tryz.underlying189 rfl hb rfl) rfl rfl rfl (Seq.nil ?_);exact ab.aC rfl rfl rfl hpre rfl (fun _ _=>rfl) hX
  |3,ho=>
   injection ho with ho
   subst ho;intro σ S w hS hpre hdc hX
   have h6:S 6=false:=by
    cases h6:S 6 with
    |false=>rfl
    |true=>have:=hdc 6 _ rfl h6 3 (ar rfl);rw[hS] at this;cases this
   have hXa:=hX.1 h6;have hcl:=hc w (hXa.pre hS) hXa.fz;rcases Rs.dy hne with ⟨q,ov,hr⟩|⟨x,q,hr⟩
   ·rw[hr] at hcl
    refine Seq.cS (Ze Tryz.func151) rfl hcl ?_;rintro e w6 ⟨hf,rfl,d6,hp6⟩;refine⟨_,rfl,fun a ha=>⟨ha.defers,?_⟩⟩;rw[hr];exact⟨(hXa.fz.call hf).less hh,rfl,d6,hp6⟩
   ·rw[hr] at hcl
    refine Zc (Ze Tryz.func151) hcl ?_;rintro e w6 ⟨hf,v6,rfl,hp6,S6,hr6,hb6⟩;refine⟨_,rfl,Seq.nil ?_⟩;have hsz:=hXa.fz.size;refine ab.aC (σ:=σ) (σ':=(v6,S6,σ.2.2)) rfl rfl rfl hpre rfl (fun j hj=> ?_) ⟨fun _=>⟨hXa.fz.call hf,(fun h=>by cases h),fun _=>⟨x,q,hr,hp6,hr6,fun b hb=>⟨by have:=(hb6 b hb).1;omega,(hb6 b hb).2⟩⟩,fun hm=> ?_⟩,fun hm=> ?_⟩
    ·match j,hj with
     |0,_=>rfl
     |1,_=>rfl
     |2,_=>rfl
     |3,hj=>rw[hS] at hj;cases hj
     |4,_=>rfl
     |5,_=>rfl
     |6,_=>rfl
     |7,_=>rfl
     |8,_=>rfl
     |9,_=>rfl
     |10,_=>rfl
     |j+11,_=>rfl
    ·obtain⟨m1,m2,-⟩:=hXa.new hm
     exact⟨m1,m2.fz hf (by omega),fun _ hb=>Nat.lt_irrefl _ (Nat.lt_of_lt_of_le m2.lt (hb6 _ hb).1)⟩
    ·have hm:S 6=true:=hm
     rw[h6] at hm;cases hm
  |4,ho=>
   injection ho with ho
   subst ho;intro σ S w hS hpre hdc hX;refine Seq.val (aa.len rfl rfl Tryz.underlying68) rfl rfl rfl (Seq.nil ?_);exact ab.aC rfl rfl rfl hpre rfl (fun _ _=>rfl) hX
  |5,ho=>
   injection ho with ho
   subst ho;intro σ S w hS hpre hdc hX
   have h6:S 6=false:=by
    cases h6:S 6 with
    |false=>rfl
    |true=>have:=hdc 6 _ rfl h6 5 (ar rfl);rw[hS] at this;cases this
   have hXa:=hX.1 h6;refine Seq.slice (vs:=[.agg #[.int .i64 0, .int .i64 0, .string {data:= #[]}, .slice none 0 0]]) (s:=4) rfl rfl rfl Tryz.underlying68 (by kernel_rfl) ay (by omega) (by omega) ⟨rfl,trivial⟩ rfl rfl rfl ?_;intro g7 wa' n7;refine Seq.nil ?_;have hsz:=hXa.fz.size;refine ab.aC (σ:=σ) (σ':=(σ.1,σ.2.1,g7,σ.2.2.2)) rfl rfl rfl hpre rfl (fun j hj=> ?_) ⟨fun _=>⟨hXa.fz.step n7.below,fun h=>(hXa.pre h).step hle n7.below,fun h=> ?_,fun _=>⟨Nat.le_trans hsz n7.ge,n7.av,fun h hb=> ?_⟩⟩,fun hm=> ?_⟩
   ·match j,hj with
    |0,_=>rfl
    |1,_=>rfl
    |2,_=>rfl
    |3,_=>rfl
    |4,_=>rfl
    |5,hj=>rw[hS] at hj;cases hj
    |6,_=>rfl
    |7,_=>rfl
    |8,_=>rfl
    |9,_=>rfl
    |10,_=>rfl
    |j+11,_=>rfl
   ·obtain⟨x,q,q1,q2,q3,q4⟩:=hXa.post h
    exact⟨x,q,q1,q2.step hle n7.below,q3.mono (fun _ h=>h) (fun a ha=>n7.below.cell (q4 _ ha).2),fun b hb=>⟨(q4 b hb).1,Nat.lt_of_lt_of_le (q4 b hb).2 n7.below.size⟩⟩
   ·obtain⟨x,q,q1,q2,q3,q4⟩:=hXa.post h
    exact Nat.lt_irrefl _ (Nat.lt_of_lt_of_le (q4 _ hb).2 n7.ge)
   ·have hm:S 6=true:=hm
    rw[h6] at hm;cases hm
  |6,ho=>
   injection ho with ho
   subst ho;intro σ S w hS hpre hdc hX;have hXa0:=hX.1 hS;have d3:S 3=true:=hpre 3 (ar rfl);have d5:S 5=true:=hpre 5 (ar rfl);have hXa:XA cw K wa p d (T p d) true true σ.2.1 σ.1 σ.2.2.1 105 #[.int .i64 0, .int .i64 0, .string {data:= #[]}, .slice none 0 0] w:=by rw[d3,d5] at hXa0;exact hXa0
   obtain⟨x,q,hr,pw3,hrep,haway⟩:=hXa.post rfl;obtain⟨e7,k7,hn7⟩:=hXa.new rfl;have hsz:=hXa.fz.size;have aq3:=aq.fz hXa.fz hg0;have hown:=aq3.eW;have k90:=kt.fz hXa.fz (by omega);refine Seq.fN rfl rfl rfl Tryz.underlying68 (by kernel_rfl) ay rfl (by decide) (b:=56) (by kernel_rfl) hown (Reads.av (size:=4) k7 1 rfl) (by intro z hz;simp at hz;rcases hz with rfl|rfl|rfl|rfl<;>rfl) (by omega) (by simp only[maxLen];omega) (by omega) rfl rfl rfl ?_;intro v' w4 hown' happ hv';refine Seq.nil ?_;have hs4:=happ.below.size;have hlv:(aP evs).length=es.length*4:=hown.row.1;obtain⟨gv,cap,cur,rfl,-⟩:=Own.oB (n:=es.length) (xs:=aP evs) hown' hlv
   have hd8:S 8=false:=by
    cases h:S 8 with
    |false=>rfl
    |true=>have:=hdc 8 _ rfl h 6 (ar rfl);rw[hS] at this;cases this
   have hd10:S 10=false:=by
    cases h:S 10 with
    |false=>rfl
    |true=>have:=hdc 10 _ rfl h 6 (ar rfl);rw[hS] at this;cases this
   have hd7:S 7=false:=by
    cases h:S 7 with
    |false=>rfl
    |true=>have:=hdc 7 _ rfl h 6 (ar rfl);rw[hS] at this;cases this
   have hgvne:gv≠gt:=fun e=>by
    subst e;rcases hv' with e|e
    ·exact aq3.zi (by rw[←e];rfl)
    ·injection e with e
     have e:gv=w.heap.size:=e;have:=k90.lt;omega
   refine ab.aC (σ:=σ) (σ':=(σ.1,σ.2.1,σ.2.2.1,gv,cap,w)) rfl rfl rfl hpre rfl (fun j hj=> ?_) ⟨(fun h=>by cases h),fun _=>⟨x,q,hr,hXa,?_⟩⟩
   ·match j,hj with
    |0,_=>rfl
    |1,_=>rfl
    |2,_=>rfl
    |3,_=>rfl
    |4,_=>rfl
    |5,_=>rfl
    |6,hj=>rw[hS] at hj;cases hj
    |7,hj=>rw[hd7] at hj;cases hj
    |8,_=>rfl
    |9,_=>rfl
    |10,_=>rfl
    |j+11,_=>rfl
   ·have e8:fD S 6 8=false:=hd8
    have e10:fD S 6 10=false:=hd10;rw[e8,e10];exact⟨hown',k90.grown happ.grown (fun e=>aq3.zi e.symm),⟨pw3.av.grown happ.grown (fun e=>by have:=hown.aT _ e.symm;omega),pw3.rd.below (happ.below.mono (by omega)),pw3.bK,pw3.dU⟩,((Kp.refl wa).fz pw.av hXa.fz).app hown happ,(hXa.fz.less hh).trans (Fz.of happ.below),hs4,fun b h1 _ h3=>happ.grown.block b h1 (fun e=>h3 e.symm),hv'.elim (fun e=> .inl e) (fun e=> .inr (by injection e)),hgvne⟩
  |7,ho=>
   injection ho with ho
   subst ho;intro σ S w hS hpre hdc hX;refine Seq.val (aa.bI rfl rfl rfl Tryz.underlying68 (s:=4) (by kernel_rfl) (j:=es.length) rfl (by omega)) rfl rfl rfl (Seq.nil ?_);exact ab.aC rfl rfl rfl hpre rfl (fun _ _=>rfl) hX
  |8,ho=>
   injection ho with ho
   subst ho;intro σ S w hS hpre hdc hX;obtain⟨x,q,hr,hXa,hB⟩:=hX.2 (hpre 6 (ar rfl));obtain⟨x',q',hr',hp',hrep,haway'⟩:=hXa.post rfl;have hones:=hrep.aY
   have hB8:Own w h0 105 4 (.slice (some ⟨σ.2.2.2.1,0,none⟩) (es.length+1) σ.2.2.2.2.1) (es.length+1) (aP evs++[.int .i64 0, .int .i64 0, .string {data:= #[]}, .slice none 0 0]):=by
    have:=hB.own;rw[hS] at this;exact this
   have hlv:(aP evs).length=es.length*4:=aq.eW.row.1;obtain⟨gv,cap,cur,hvv,hgv,hgvl,kv,hfit,hset⟩:=hB8.oB hlv;have hgv2:σ.2.2.2.1=gv:=by injection hvv with h1;injection h1 with h1;injection h1
   rw[←hgv2] at hgv hgvl kv hset;have haddr:(⟨σ.2.2.2.1,0,none⟩:Addr).add (es.length*4)=⟨σ.2.2.2.1,es.length*4,none⟩:=by unfold Addr.add;split<;>simp_all
   refine Seq.jM (g:=σ.2.2.2.1) (off:=es.length*4) rfl (congrArg (fun a=>some (Value.pointer (some a))) haddr) rfl rfl (m:=4) (by kernel_rfl) hones.1 (iA hones.2) kv (by rw[hones.1];exact hfit) rfl rfl ?_;intro w6 p6;refine Seq.nil ?_;have hne:=hB.ne;have hsz:=hXa.fz.size;have hown6:=hset w6 σ.1.cells hones.1 p6;have hcv:cap=σ.2.2.2.2.1:=by injection hvv with _ _ h3;exact h3.symm
   refine ab.lq (σ:=σ) (σ':=σ) rfl rfl rfl (fun _ _=>rfl) ⟨(fun h=>by have h:S 6=false:=h;rw[hpre 6 (ar rfl)] at h;cases h),fun _=>⟨x,q,hr,hXa,?_⟩⟩
   exact⟨by have:=hown6;exact this,hB.box.put p6 (fun e=>hne e.symm),⟨hB.pw.av.put p6 (by omega),hB.pw.rd.below (p6.below (by omega) hgvl),hB.pw.bK,hB.pw.dU⟩,hB.kp.put kv p6 hgv,hB.fz.put kv p6 hgv,Nat.le_trans hB.hs (Nat.le_of_eq p6.size.symm),fun b h1 h2 h3=>(p6.grown.block b (Nat.lt_of_lt_of_le h1 hB.hs) (fun e=>by
    injection e with e
    rcases hB.hv with e'|e'
    ·exact h3 (by rw[←e',e])
    ·omega)).trans (hB.hb b h1 h2 h3),hB.hv,hne⟩
  |9,ho=>
   injection ho with ho
   subst ho;intro σ S w hS hpre hdc hX;refine Seq.val (aa.fL 3 rfl rfl Tryz.underlying105 rfl (by kernel_rfl)) rfl rfl rfl (Seq.nil ?_);exact ab.aC rfl rfl rfl hpre rfl (fun _ _=>rfl) hX
  |10,ho=>
   injection ho with ho
   subst ho;intro σ S w hS hpre hdc hX;obtain⟨x,q,hr,hXa,hB⟩:=hX.2 (hpre 6 (ar rfl));have hbox:=hB.box;refine Zq hbox ?_;intro w6 p6;refine Seq.nil ?_;have hne:=hB.ne;have hown:=hB.own;refine ab.lq (σ:=σ) (σ':=σ) rfl rfl rfl (fun _ _=>rfl) ⟨(fun h=>by have h:S 6=false:=h;rw[hpre 6 (ar rfl)] at h;cases h),fun _=>⟨x,q,hr,hXa,?_⟩⟩
   exact⟨hown.jN (Nat.le_of_eq p6.size.symm) (fun b e=>p6.grown.block b (hown.aT b e).2 (fun e'=>by
    have e1:σ.2.2.2.1=b:=by injection e
    have e2:b=gt:=by injection e'
    exact hne (e1.trans e2))),p6.av,⟨hB.pw.av.put p6 (by omega),hB.pw.rd.below (p6.below (by omega) hbox.lt),hB.pw.bK,hB.pw.dU⟩,hB.kp.put hbox p6 hgt,hB.fz.put hbox p6 hgt,Nat.le_trans hB.hs (Nat.le_of_eq p6.size.symm),fun b h1 h2 h3=>(p6.grown.block b (Nat.lt_of_lt_of_le h1 hB.hs) (fun e=>h2 (by injection e))).trans (hB.hb b h1 h2 h3),hB.hv,hne⟩
  |k+11,ho=>simp at ho
 rintro⟨v5,S5,g7,gv,cap,W3⟩ S w9 hS hX;obtain⟨x,q,hr,hXa,hB⟩:=hX.2 (hS 6 (by decide));obtain⟨x',q',hr',-,hrep,haway⟩:=hXa.post rfl;rw[hr] at hr';injection hr' with e1 e2
 subst e1 e2;dsimp only at hrep haway hXa hB;rw[hS 8 (by decide),hS 10 (by decide)] at hB;have aq3:=aq.fz hXa.fz hg0;have hsz:=hXa.fz.size;rw[hr]
 have hfin:=aq3.Bz hrep (fun b hb=>⟨by have:=(haway b hb).1;omega,(haway b hb).2,by have:=(haway b hb).1;omega,fun e=>by have:=(aq.eW.aT b e).2;have:=(haway b hb).1;omega,fun e=>by cases e⟩) hB.own hB.hs
  (fun b _ h2 h3 h4=>hB.hb b h2 h3 h4) (hB.hv.elim .inl fun e=> .inr ⟨_,rfl,Nat.le_of_eq e.symm⟩) (by omega)
 refine eh 0 1 ?_;refine ab.fP rfl (.inr rfl) ?_;exact⟨hB.fz,_,rfl,hB.pw,hB.kp,_,_,_,hB.box,hfin⟩
section
variable {W:World} {h gt:Nat} {es:List Ex} {ts:List Tm} {evs tvs:List Value} {vE vT:Value} {S:Nat→Prop}
theorem Own.rows {B n size:Nat}{e:TypeId}{v:Value}{xs:List Value}{S':Nat→Prop}(o:Own W B e size v n xs)(hS:∀b,v.ownBlock=some b→S' b):∃A c,v= .slice A n c∧Rows W S' A xs:=by
 obtain⟨h1,⟨rfl,rfl⟩|⟨g,cap,cur,rfl,e2,e3,e4,e5,e6,e7⟩⟩:=o.row
 ·refine⟨none,0,rfl,fun hne=> ?_⟩
  rw[Nat.zero_mul] at h1;exact absurd (List.eq_nil_of_length_eq_zero h1) hne
 ·obtain⟨A,c,hv,hr⟩:=o.reads
  injection hv with e1 _ _
  subst e1;refine⟨_,cap,rfl,fun hne=> ?_⟩;rcases Nat.eq_zero_or_pos n with h0|h0
  ·subst h0
   rw[Nat.zero_mul] at h1;exact absurd (List.eq_nil_of_length_eq_zero h1) hne
  ·obtain⟨ad,hA,hb,hc⟩:=hr.2 h0
   injection hA with hA
   subst hA;exact⟨_,rfl,hS _ rfl,hc⟩
def rm (S:Nat→Prop)(vE vT:Value)(b:Nat):Prop:=S b∨vE.ownBlock=some b∨vT.ownBlock=some b
theorem dt.bounds (a:dt W h gt es ts evs tvs vE vT S):∀b,rm S vE vT b→h≤b∧b<W.heap.size∧b≠gt:=fun b hb=>by
 rcases hb with hb|hb|hb
 ·obtain⟨h1,h2,h3,-,-⟩:=a.AN b hb
  exact⟨h1,h2,h3⟩
 ·obtain⟨h1,h2⟩:=a.eW.aT b hb
  exact⟨h1,h2,fun e=>a.zi (by rw[hb,e])⟩
 ·obtain⟨h1,h2⟩:=a.fh.aT b hb
  exact⟨h1,h2,fun e=>a.xS (by rw[hb,e])⟩
theorem dt.ex (a:dt W h gt es ts evs tvs vE vT S)(op z:Int)(nm:List Nat)(h1:bt op)(h2:bt z)(h3:∀d∈nm,d<256)(h4:nm.length≤9223372036854775807)(hl:es.length≤1000):cw W (rm S vE vT) (.mk op z nm es) (.agg #[.int .i64 op, .int .i64 z, .string (strOf nm),vE]):=by
 obtain⟨A,c,hv,hr⟩:=a.eW.rows (S':=rm S vE vT) (fun b hb=> .inr (.inl hb));rw[hv];rw[hv] at hr a;exact cw.mk a.tM hl h1 h2 h3 h4 (fun i e v e1 e2=>(a.zx i e v e1 e2).mono (fun _ h=> .inl h) (fun _ _=>rfl)) hr
theorem dt.tm (a:dt W h gt es ts evs tvs vE vT S)(op:Int)(nm:List Nat)(h1:bt op)(h3:∀d∈nm,d<256)(h4:nm.length≤9223372036854775807)(hl:es.length≤1000)(hl':ts.length≤1000):dm W (rm S vE vT) (.mk op nm es ts) (.agg #[.int .i64 op, .string (strOf nm),vE,vT]):=by
 obtain⟨A,c,hv,hr⟩:=a.eW.rows (S':=rm S vE vT) (fun b hb=> .inr (.inl hb));obtain⟨A',c',hv',hr'⟩:=a.fh.rows (S':=rm S vE vT) (fun b hb=> .inr (.inr hb));rw[hv,hv'];rw[hv,hv'] at hr hr' a;exact dm.mk a.tM a.vk hl hl' h1 h3 h4 (fun i e v e1 e2=>(a.zx i e v e1 e2).mono (fun _ h=> .inl h) (fun _ _=>rfl)) (fun i e v e1 e2=>(a.CN i e v e1 e2).mono (fun _ h=> .inl h) (fun _ _=>rfl)) hr hr'
end
theorem dt.nil (W:World)(h gt:Nat):dt W h gt [] [] [] [] (.slice none 0 0) (.slice none 0 0) (fun _=>False):=
 ⟨rfl,rfl,Own.nil _ _ _ _,Own.nil _ _ _ _,fun i e v h1=>by simp at h1,fun i e v h1=>by simp at h1,fun b h=>h.elim,(by intro h;cases h),(by intro h;cases h)⟩
theorem yp:∀args w,(callFunc 242 args).run Tryz.prog w= .ok (.enter 242 args) w:=fun args w=>bG Tryz.func242 (by kernel_rfl) rfl args w
theorem er:cf Tryz.prog 1=some (some .nilFunc):=by kernel_rfl
theorem gh (a:Int)(w:World):(Instr.build 105 #[(0, .int .i64 a)]).run Tryz.prog w= .ok (.agg #[.int .i64 a, .int .i64 0, .string (strOf []), .slice none 0 0]) w:=by
 have hu:=Tryz.underlying105
 go_simp
 rfl
theorem ql {α:Type}(ws:List Wd):∀(aY:List (Nat→Nat→Rs α)) (first:Bool) (p d:Nat) (xs:List α) (q:Nat),bn ws aY first p d= .ok xs q→xs.length=aY.length
 | [],_,p,d,xs,q,h=>by
  unfold bn at h;injection h with h
  rw[←h];rfl
 |one::r,first,p,d,xs,q,h=>by
  rw[iE] at h
  cases h1:(if first=true then Rs.ok () p else bE ws [44] p) with
  |out=>rw[h1] at h;cases h
  |bad a b=>rw[h1] at h;cases h
  |ok u p1=>
   rw[h1,Rs.bz] at h
   cases h2:one p1 d with
   |out=>rw[h2] at h;cases h
   |bad a b=>rw[h2] at h;cases h
   |ok x p2=>
    rw[h2,Rs.bz] at h
    cases h3:bn ws r false p2 d with
    |out=>rw[h3] at h;cases h
    |bad a b=>rw[h3] at h;cases h
    |ok ys p3=>
     rw[h3,Rs.bz] at h;injection h with h _
     rw[←h,List.length_cons,List.length_cons,ql ws r false p2 d ys p3 h3]
theorem et {α:Type}{ws:List Wd}{aY:List (Nat→Nat→Rs α)}{p d:Nat}{xs:List α}{q:Nat}(h:aW ws aY p d= .ok xs q):xs.length=aY.length:=by
 unfold aW at h
 cases h1:bE ws [40] p with
 |out=>rw[h1] at h;cases h
 |bad a b=>rw[h1] at h;cases h
 |ok u p1=>
  rw[h1,Rs.bz] at h
  cases h2:cW p1 d with
  |out=>rw[h2] at h;cases h
  |bad a b=>rw[h2] at h;cases h
  |ok u p2=>
   rw[h2,Rs.bz] at h
   cases h3:bn ws aY true p2 (d+1) with
   |out=>rw[h3] at h;cases h
   |bad a b=>rw[h3] at h;cases h
   |ok ys p3=>
    rw[h3,Rs.bz] at h
    cases h4:bE ws [41] p3 with
    |out=>rw[h4] at h;cases h
    |bad a b=>rw[h4] at h;cases h
    |ok u p4=>
     rw[h4,Rs.bz] at h;injection h with h _
     rw[←h];exact ql ws aY true p2 (d+1) ys p3 h3
theorem Kp.own {w W:World}{B n size:Nat}{e:TypeId}{v:Value}{xs:List Value}(a:Kp w W)(o:Own w B e size v n xs)(h1:e≠71:=by decide)(h2:e≠105:=by decide)(h3:e≠219:=by decide):Own W B e size v n xs:=by
 obtain⟨r1,⟨r2,r3⟩|⟨g,cap,cur,rfl,e2,e3,e4⟩⟩:=o.row
 ·exact⟨r1, .inl ⟨r2,r3⟩⟩
 ·exact⟨r1, .inr ⟨g,cap,cur,rfl,e2,a.ew g e cur e3 h1 h2 h3,e4⟩⟩
def BN (K:Ctx)(E0:Nat→Nat→Rs Ex):Prop:=∀p d W,PW K W p d false→E0 p d≠ .out→Calls Tryz.prog 151 #[.pointer (some ⟨K.g,0,none⟩), .int .i64 0] W (PR K W d (E0 p d) (nN W))
theorem lW (K:Ctx)(hK:K.Ok)(E0:Nat→Nat→Rs Ex)(hE:BN K E0)(op:Int)(k p d:Nat)(w:World)(pw:PW K w p d false)(hp:p+1≤K.ws.length)(hop:bt op)(hk:k≤3)(hne:bX K.ws E0 op k p d≠ .out):
  Calls Tryz.prog 237 #[.pointer (some ⟨K.g,0,none⟩), .int .i64 op, .int .i64 (k:Int)] w (PR K w d (bX K.ws E0 op k p d) (nN w)):=by
 have ae:=Fz.refl w.heap.size K.g w;have k99:=pw.av;have e99:K.g=K.g:=rfl;have hlt:=pw.av.lt;have hlen:=hK.len;have hle:=hK.le;refine Zs 30 Tryz.func237 ?_;refine ao ?_;refine Seq.box rfl rfl rfl rfl rfl ?_;intro g3 w1 n3;have e3:=Nat.le_trans ae.size n3.ge;have l3:=Nat.lt_of_lt_of_le k99.lt n3.ge;replace ae:=ae.step n3.below;replace k99:=k99.step n3.below;have k3:=n3.av;refine Zl ay ?_;intro g6 w2 n6;have e6:=Nat.le_trans ae.size n6.ge;have l6:=Nat.lt_of_lt_of_le k3.lt n6.ge;replace ae:=ae.step n6.below;replace k99:=k99.step n6.below;replace k3:=k3.step n6.below;have k6:=n6.av;refine aU 0 1 2 3 6 (aG ?_);refine Zv (aa.ag rfl rfl Tryz.underlying189 rfl k3 rfl) ?_;refine Zv (aa.nilCheck rfl rfl) ?_;refine Zf 1 Tryz.underlying219 ?_;refine Zv (aa.ag rfl rfl Tryz.underlying3 rfl k99 rfl) ?_;refine cH ?_;refine Zv (aa.nilCheck rfl rfl) ?_;refine Zf 1 Tryz.underlying219 ?_;refine Zq k99 ?_;intro w3 pw3;replace ae:=ae.put k99 pw3 e99;replace k3:=k3.put pw3 (by omega);replace k6:=k6.put pw3 (by omega);replace k99:=pw3.av;refine aU 0 1 2 3 6 (aG ?_);refine Zm ?_;refine Zv (aa.build rfl rfl (gh op _)) ?_;refine Zl ay ?_;intro g7 w4 n7;have e7:=Nat.le_trans ae.size n7.ge;have l7:=Nat.lt_of_lt_of_le k6.lt n7.ge;replace ae:=ae.step n7.below;replace k99:=k99.step n7.below;replace k3:=k3.step n7.below;replace k6:=k6.step n7.below;have k7:=n7.av;refine Zo 4 k7 ?_;intro w5 pw5;replace ae:=ae.put k7 pw5 e7;replace k99:=k99.put pw5 (by omega);replace k3:=k3.put pw5 (by omega);replace k6:=k6.put pw5 (by omega);replace k7:=pw5.av;refine bj 0 1 2 3 6 7 (aG ?_);refine Za ?_;refine bb 0 1 2 3 6 7 8 (aJ (ao ?_));refine Zm ?_;refine Zm ?_;refine dG 0 1 2 3 6 7 8 18 19 (Zt (Cd.block ?_));have pwl:=pw.next hle hp ae k99;obtain⟨wl,hwl⟩:∃wl,wl=w5:=⟨_,rfl⟩;rw[←hwl] at pwl ae k3 k6 k7 k99⊢;have bel0:=ae;have l37:g3<g7:=by omega
 have hgg7:K.g<g7:=by omega
 have hs0:=ae.size;replace ae:=Below.refl wl.heap.size wl;refine Cd.loop (σ:=Nat × Value) (fun s=>[(3, .pointer (some ⟨g3,0,none⟩)),(6, .pointer (some ⟨g6,0,none⟩)),(7, .pointer (some ⟨g7,0,none⟩)),(8,s.2),(18, .int .i64 (k:Int)),(19, .int .i64 (s.1:Int))]) (fun s wr=>s.1≤k∧Below wl.heap.size wl wr∧Own wr wl.heap.size 1 1 s.2 s.1 (List.replicate s.1 (.func (.func 242) #[] #[.pointer (some ⟨g7,0,none⟩), .pointer (some ⟨g3,0,none⟩)]))) (fun s=>k-s.1) (0, .slice none 0 0) ⟨Nat.zero_le _,ae,Own.nil _ _ _ _⟩ ⟨rfl,rfl,rfl,rfl,rfl,rfl,trivial⟩ ?_;clear ae;rintro⟨i,v⟩ wr ⟨hi,ae,own⟩;dsimp only at hi own⊢;refine ao ?_;refine Zv (aa.lss rfl rfl rfl) ?_;refine bb 3 6 7 8 18 19 20 (aJ ?_);refine Cd.au rfl (fun hc=> ?_) (fun hc=> ?_)
 ·skip
  refine Cd.skip (aJ (Cd.block (Zr ?_)));refine Zm ?_;refine Zv (aa.makeFunc (v:= .func (.func 242) #[] #[.pointer (some ⟨g7,0,none⟩), .pointer (some ⟨g3,0,none⟩)]) rfl (show iG _ _=some [] from rfl) (show iG _ _=some [.pointer (some ⟨g7,0,none⟩), .pointer (some ⟨g3,0,none⟩)] from rfl) rfl) ?_;refine Seq.slice (vs:=[_]) (s:=1) rfl rfl rfl Tryz.underlying225 (by kernel_rfl) (er) (by omega) (by omega) ⟨rfl,trivial⟩ rfl rfl rfl ?_;intro g23 w6 n23;have e23:=Nat.le_trans ae.size n23.ge;replace ae:=ae.step n23.below;replace own:=own.step n23.below;have k23:=n23.av;refine Seq.append rfl rfl rfl Tryz.underlying225 (by kernel_rfl) er rfl (by decide) (b:=8) (by kernel_rfl) own (Reads.av k23 1 rfl) (by intro x hx;simp[aP,Value.cells] at hx;rw[hx];rfl) ae.size (by simp only[maxLen];omega) (by omega) rfl rfl rfl ?_;clear own;intro vw7 w7 own haw7;replace ae:=ae.trans haw7.below;refine Za ?_;refine bb 3 6 7 8 18 19 20 (ab.aj (ei ?_));refine cH ?_;refine Zm ?_;refine bb 3 6 7 8 18 19 20 ?_;refine ab.round (i+1,_) ⟨rfl,rfl,rfl,rfl,rfl,rfl,trivial⟩ ⟨by dsimp only;omega,ae,?_⟩ (by dsimp only;omega);dsimp only;rw[List.replicate_succ'];exact own
 obtain rfl:i=k:=by omega
 have pw9:=pwl.step hle ae;replace k3:=k3.step ae;replace k6:=k6.step ae;replace k7:=k7.step ae;obtain⟨AP,cP,rfl,-⟩:=own.reads;have hsr:=ae.size;obtain⟨R,hR⟩:∃R,R=aW K.ws (List.replicate i E0) (p+1) d:=⟨_,rfl⟩;have hcd:bX K.ws E0 op i p d=R.bind fun xs p=> .ok (.mk op 0 [] xs) p:=by rw[hR];rfl
 have hneR:R≠ .out:=Rs.fa (by rw[←hcd];exact hne);have hfl:(List.replicate i (242,[Value.pointer (some ⟨g7,0,none⟩),Value.pointer (some ⟨g3,0,none⟩)])).length=i:=List.length_replicate
 have hrepl:∀ {β:Type} {x y:β} {j:Nat},(List.replicate i x)[j]? =some y→y=x∧j<i:=fun {β x y j} h=>by
  have h1:=(List.getElem?_eq_some_iff.1 h).1;rw[List.length_replicate] at h1;rw[List.getElem?_replicate,if_pos h1] at h;injection h with h
  exact⟨h.symm,h1⟩
 have hwi:=jC K hK g7 (List.replicate i E0) (List.replicate i (242,[Value.pointer (some ⟨g7,0,none⟩),Value.pointer (some ⟨g3,0,none⟩)])) AP cP
  (fun xs W=>Kp wr W∧∃evs vE S,aK W g7 105 #[.int .i64 op, .int .i64 0, .string (strOf []),vE]∧dt W g7 g7 xs [] evs [] vE (.slice none 0 0) S) (p+1) d wr pw9 (by have:=k7.lt;omega) (by rw[List.length_replicate,List.length_replicate]) (by rw[List.length_replicate];omega)
  ⟨Kp.refl wr,[],_,_,k7,dt.nil wr g7 g7⟩
  (fun xs W W' p d hM hp hf=>by
   obtain⟨kp,evs,vE,S,kt,aq⟩:=hM;exact⟨kp.fz hp.av hf,evs,vE,S,kt.fz hf (by omega),aq.fz hf hgg7⟩)
  (fun xs W j f cp hM hj=>by
   obtain⟨kp,-⟩:=hM;obtain⟨e1,hji⟩:=hrepl hj;injection e1 with e1 e2
   subst e1 e2;obtain⟨A',c',hv,hr⟩:=(kp.own own).reads;injection hv with hv _ _
   subst hv;obtain⟨ad,hA,-,hc⟩:=hr.2 (by omega);exact⟨ad,hA,hc j _ (by rw[List.getElem?_replicate,if_pos hji])⟩)
  (fun j f cp hj=>by
   obtain⟨e1,-⟩:=hrepl hj;injection e1 with e1 e2
   subst e1;exact yp)
  (fun j f cp one hj ho xs W p' hxl hpw hW hM hne1=>by
   obtain⟨e1,hji⟩:=hrepl hj;injection e1 with e1 e2
   subst e1 e2;obtain⟨e3,-⟩:=hrepl ho;subst e3;obtain⟨kp,evs,vE,S,kt,aq⟩:=hM;exact(uc K hK g7 g7 g3 (d+1) p' op 0 [] xs evs vE S one W hpw hgg7 (Nat.le_refl _) hW kt (kp.av k3) aq (by omega) (fun W' h1 _=>hE p' (d+1) W' h1 hne1) hne1).mono fun e W' hq=>hq.mono fun a v W' h=>⟨kp.trans h.1,h.2⟩)
  (by rw[←hR];exact hneR)
 rw[←hR,hfl] at hwi;have e0:Fz w.heap.size K.g w wr:=bel0.step ae;refine Cd.exit (ab.aD (ab.aA (ab.az (aG ?_))));refine Zv (aa.ag rfl rfl Tryz.underlying189 rfl k3 rfl) ?_;refine Zm ?_;rcases Rs.dy hneR with ⟨q,ov,hr⟩|⟨xs,q,hr⟩
 ·rw[hr] at hwi hcd
  refine Seq.cS (Ze Tryz.func166) rfl hwi ?_;rintro e w6 ⟨hf,rfl,d6,hp6⟩;refine⟨_,rfl,fun a ha=>⟨ha.defers,?_⟩⟩;rw[hcd];exact⟨e0.trans (hf.less (by omega)),rfl,d6,hp6⟩
 rw[hr] at hwi hcd;replace hcd:bX K.ws E0 op i p d= .ok (.mk op 0 [] xs) q:=hcd;have k6lt:g6<g7:=by omega
 refine Zc (Ze Tryz.func166) (hwi) ?_;rintro e wq ⟨hf,v6,rfl,pwq,kp6,evs,vE,S,kt6,aq6⟩;refine⟨_,rfl,?_⟩
 have k66:aK wq g6 105 #[.int .i64 0, .int .i64 0, .string {data:= #[]}, .slice none 0 0]:=by
  have k6:aK wr g6 105 #[.int .i64 0, .int .i64 0, .string {data:= #[]}, .slice none 0 0]:=k6;have h1:=hf.block g6 k6lt (by omega);unfold aK at k6⊢;rw[h1];exact k6
 have e1:Fz w.heap.size K.g w wq:=e0.trans (hf.less (by omega));clear hwi;obtain⟨AX,cX,hvX,-⟩:=aq6.eW.reads;subst hvX;clear k6 k7 ae bel0 k3;have k6:=k66;have k7:=kt6;have ae:=e1
 have hxl:xs.length=i:=by
  have:=et (hR.symm.trans hr);rw[List.length_replicate] at this;exact this
 have e6:w.heap.size≤g6:=by omega
 have hrx:=aq6.ex op 0 [] hop (by unfold bt;omega) (by simp) (by simp) (by omega);have hbn:=aq6.bounds;have hlq:=k6.lt;refine bb 3 6 7 8 18 19 20 (aG ?_);refine Zv (aa.aQ rfl rfl Tryz.underlying105 rfl k7 (m:=4) (by kernel_rfl) rfl) ?_;refine Zo 4 k6 ?_;intro w6 pw6;replace ae:=ae.put k6 pw6 e6;replace k7:=k7.put pw6 (by omega);replace k6:=pw6.av;refine bb 3 6 7 8 18 19 20 (Zt (Cd.ret ?_));refine ab.cz rfl rfl k6 Tryz.underlying105 rfl (m:=4) (by kernel_rfl) rfl (.inl rfl) ?_;rw[hcd];have hsz:=pw6.size;refine⟨ae,_,rfl,⟨pwq.av.put pw6 (by omega),pwq.rd.below (pw6.below (by omega) hlq),pwq.bK,pwq.dU⟩,_,hrx.mono (fun _ h=>h) (fun a ha=>World.cell?_of_block (pw6.grown.block _ (hbn _ ha).2.1 (fun e=>by injection e with e;have:=(hbn _ ha).1;omega))),fun b hb=> ?_⟩;obtain⟨h1,h2,-⟩:=hbn b hb;exact⟨by omega,by omega⟩
theorem lD.all {w w':World}{g m:Nat}{T:TypeId}{cs vc:Array Value}(p:lD w w' g T (cs.toList.take 0++(vc.toList++cs.toList.drop (0+vc.size))).toArray)(h1:vc.size=m)(h2:cs.size=m):aK w' g T vc:=by
 have hcells:(cs.toList.take 0++(vc.toList++cs.toList.drop (0+vc.size))).toArray=vc:=by
  have:cs.toList.drop (0+vc.size)=[]:=List.drop_of_length_le (by rw[h1];simp[h2]);rw[this];simp
 have:=p.av
 rwa [hcells] at this
theorem PW.to {K:Ctx}{w W:World}{p d:Nat}{ov:Bool}(h:PW K w p d ov)(hK:K.B≤K.g)(ae:Fz w.heap.size K.g w W)(hb:aK W K.g 219 #[.slice K.A K.ws.length K.c, .int .i64 (p:Int), .int .i64 (d:Int), .bool ov, .int .i64 (K.en:Int)]):PW K W p d ov:=
 ⟨hb,h.rd.below (ae.below (by have:=h.av.lt;omega) hK),h.bK,h.dU⟩
theorem Cz:∀args w,(callFunc 238 args).run Tryz.prog w= .ok (.enter 238 args) w:=fun args w=>bG Tryz.func238 (by kernel_rfl) rfl args w
theorem mC (a:Int)(s:List Nat)(w:World):(Instr.build 105 #[(0, .int .i64 a),(2, .string (strOf s))]).run Tryz.prog w= .ok (.agg #[.int .i64 a, .int .i64 0, .string (strOf s), .slice none 0 0]) w:=by
 have hu:=Tryz.underlying105
 go_simp
def xP (h g:Nat)(xs:List Ex)(W:World):Prop:=∃cs,aK W g 105 cs∧cs.size=4∧∀x,xs[0]? =some x→∃(S:Nat→Prop) (v:Value),cs=v.cells∧cw W S x v∧∀b,S b→h≤b∧b<W.heap.size∧b≠g
theorem xP.fz {h g q:Nat}{xs:List Ex}{W W':World}(m:xP h g xs W)(f:Fz W.heap.size q W W')(hq:q<h)(hg:h≤g):xP h g xs W':=by
 obtain⟨cs,h1,h2,h3⟩:=m;refine⟨cs,h1.fz f (by omega),h2,fun x hx=> ?_⟩;obtain⟨S,v,e1,e2,e3⟩:=h3 x hx;refine⟨S,v,e1,e2.mono (fun _ h=>h) (fun a ha=>World.cell?_of_block (f.block _ (e3 _ ha).2.1 (by have:=(e3 _ ha).1;omega))),fun b hb=> ?_⟩;obtain⟨b1,b2,b3⟩:=e3 b hb;exact⟨b1,Nat.lt_of_lt_of_le b2 f.size,b3⟩
theorem xL (K:Ctx)(hK:K.Ok)(h0 b1 gt d p:Nat)(T:Nat→Nat→Rs Ex)(w:World)(pw:PW K w p d false)(hg0:K.g<h0)(hgt:h0≤gt)(hh:h0≤w.heap.size)(kb1:aK w b1 189 #[.pointer (some ⟨K.g,0,none⟩)]) (kt:xP h0 gt [] w)
  (hc:∀W,PW K W p d false→Fz w.heap.size K.g w W→Calls Tryz.prog 151 #[.pointer (some ⟨K.g,0,none⟩), .int .i64 0] W (PR K W d (T p d) (nN W))) (hne:T p d≠ .out):
  Calls Tryz.prog 238 #[.pointer (some ⟨b1,0,none⟩), .pointer (some ⟨gt,0,none⟩)] w (tX K h0 w d (T p d) fun x _ W'=>Kp w W'∧xP h0 gt [x] W'):=by
 have hle:=hK.le;have ae:=Fz.refl w.heap.size K.g w;have k1:=kb1;have hcl:=hc w pw ae;refine Zs 4 Tryz.func238 ?_;refine Zr ?_;refine Zv (aa.ag rfl rfl Tryz.underlying189 rfl k1 rfl) ?_;rcases Rs.dy hne with ⟨q,ov,hr⟩|⟨x,q,hr⟩
 ·rw[hr] at hcl
  refine Seq.cS (Ze Tryz.func151) rfl hcl ?_;rintro e w6 ⟨hf,rfl,d6,hp6⟩;refine⟨_,rfl,fun a ha=>⟨ha.defers,?_⟩⟩;rw[hr];exact⟨hf.less hh,rfl,d6,hp6⟩
 rw[hr] at hcl⊢;refine Zc (Ze Tryz.func151) (hcl) ?_;rintro e wq ⟨hf,v6,rfl,pwq,S,hrep,hb⟩;refine⟨_,rfl,?_⟩;obtain⟨cs,h1,h2,-⟩:=kt;have kq:=h1.fz hf (by omega);have hones:=hrep.aY;have hlt:=h1.lt;refine Seq.jM rfl rfl rfl rfl (m:=4) (by kernel_rfl) hones.1 (iA hones.2) kq (by rw[hones.1,h2];omega) rfl rfl ?_;intro w7 p7;refine eh 0 1 ?_;refine ab.fP rfl (.inr rfl) ?_;have hs:=p7.size
 have hcells:(cs.toList.take 0++(v6.cells.toList++cs.toList.drop (0+v6.cells.size))).toArray=v6.cells:=by
  have:cs.toList.drop (0+v6.cells.size)=[]:=List.drop_of_length_le (by rw[hones.1];simp[h2]);rw[this];simp
 have kb:=p7.av;rw[hcells] at kb;refine⟨(hf.less hh).trans ((Fz.refl h0 K.g wq).put kq p7 hgt),_,rfl,⟨pwq.av.put p7 (by omega),pwq.rd.below (p7.below (by omega) kq.lt),pwq.bK,pwq.dU⟩,((Kp.refl w).fz pw.av hf).put kq p7 hgt,_,kb,hones.1,fun y hy=> ?_⟩;simp at hy;subst hy;exact⟨S,v6,rfl,hrep.mono (fun _ h=>h) (fun a ha=>World.cell?_of_block (p7.grown.block _ (hb _ ha).2 (fun e=>by injection e with e;have:=(hb _ ha).1;omega))),fun b hb'=>⟨by have:=(hb b hb').1;omega,by have:=(hb b hb').2;omega,by have:=(hb b hb').1;omega⟩⟩
theorem zY (K:Ctx)(hK:K.Ok)(E0:Nat→Nat→Rs Ex)(hE:BN K E0)(p d:Nat)(w:World)(pw:PW K w p d false)(hne:eO K.ws E0 p d≠ .out):
  Calls Tryz.prog 222 #[.pointer (some ⟨K.g,0,none⟩)] w (PR K w d (eO K.ws E0 p d) (nN w)):=by
 have ae:=Fz.refl w.heap.size K.g w;have k99:=pw.av;have e99:K.g=K.g:=rfl;have hlt:=pw.av.lt;have hlen:=hK.len;have hle:=hK.le;have hpl:=pw.bK;obtain⟨a1,a2,a3,a4,a5⟩:=hK.at_ p;obtain⟨b1,b2,b3⟩:=K.ju p;have hw:=fun W h=>gA K hK p d false W h;unfold DQ at hw
 have hq:eO K.ws E0 p d=if(K.at_ p).kind=1 then .ok (.mk 1 (K.at_ p).n [] []) (p+1) else if(K.at_ p).kind=2 then .ok (.mk 2 (K.at_ p).n [] []) (p+1) else if(K.at_ p).kind=3 then
   if(K.at_ p).text=zP then .ok (.mk 4 0 [] []) (p+1) else if(K.at_ p).text=Au then bX K.ws E0 9 2 p d else if(K.at_ p).text=AI then bX K.ws E0 10 2 p d else if(K.at_ p).text=D7 then bX K.ws E0 21 3 p d else(dW K.ws p).bind fun nm p=> .ok (.mk 3 0 nm []) p
  else if(K.at_ p).kind=0 then(aW K.ws [E0] p d).bind fun xs p=> .ok (xs.getD 0 (.mk 0 0 [] [])) p else .bad p false:=by rw[b1,b2,b3];rfl
 have hp:(K.at_ p).kind≠ -1→p+1≤K.ws.length:=fun hk=>by
  rcases Nat.lt_or_ge p K.ws.length with h|h
  ·exact h
  ·exact absurd (by unfold Ctx.at_;rw[List.getD_eq_getElem?_getD,List.getElem?_eq_none h];rfl) hk
 refine Zs 58 Tryz.func222 ?_;refine ao ?_;refine Seq.box rfl rfl rfl rfl rfl ?_;intro g1 w1 n1;have e1:=Nat.le_trans ae.size n1.ge;have l1:=Nat.lt_of_lt_of_le k99.lt n1.ge;replace ae:=ae.step n1.below;replace k99:=k99.step n1.below;have k1:=n1.av;refine Zl ay ?_;intro g2 w2 n2;have e2:=Nat.le_trans ae.size n2.ge;have l2:=Nat.lt_of_lt_of_le k1.lt n2.ge;replace ae:=ae.step n2.below;replace k99:=k99.step n2.below;replace k1:=k1.step n2.below;have k2:=n2.av;refine bD 0 1 2 (aG ?_);refine Zv (aa.ag rfl rfl Tryz.underlying189 rfl k1 rfl) ?_;refine Zc (Ze Tryz.func164) (hw _ (pw.to hle ae k99)) ?_;rintro e w5 ⟨rfl,hb5⟩;refine⟨_,rfl,?_⟩;replace ae:=ae.step hb5;replace k99:=k99.step hb5;replace k1:=k1.step hb5;replace k2:=k2.step hb5;refine Zl bJ ?_;intro g3 w3 n3;have e3:=Nat.le_trans ae.size n3.ge;have l3:=Nat.lt_of_lt_of_le k2.lt n3.ge;replace ae:=ae.step n3.below;replace k99:=k99.step n3.below;replace k1:=k1.step n3.below;replace k2:=k2.step n3.below;have k3:=n3.av;refine Zo 4 k3 ?_;intro w4 pw4;replace ae:=ae.put k3 pw4 e3;replace k99:=k99.put pw4 (by omega);replace k1:=k1.put pw4 (by omega);replace k2:=k2.put pw4 (by omega);replace k3:=pw4.av;refine aV 0 1 2 3 (aG ?_);refine Zl ay ?_;intro g4 w5 n4;have e4:=Nat.le_trans ae.size n4.ge;have l4:=Nat.lt_of_lt_of_le k3.lt n4.ge;replace ae:=ae.step n4.below;replace k99:=k99.step n4.below;replace k1:=k1.step n4.below;replace k2:=k2.step n4.below;replace k3:=k3.step n4.below;have k4:=n4.av;refine aU 0 1 2 3 4 (aJ (ao ?_));refine Zf 0 Tryz.underlying221 ?_;refine Zv (aa.ag rfl rfl Tryz.underlying3 rfl k3 rfl) ?_;refine bj 0 1 2 3 4 8 (Zt (Cd.block (ao ?_)));refine Zv (aa.aB rfl rfl rfl) ?_;refine Za ?_;refine bb 0 1 2 3 4 8 11 (Zt ?_);refine Cd.au rfl (fun c1=> ?_) (fun c1=> ?_)
 ·rw[if_pos c1] at hq
  have hp1:=hp (by omega);refine Zr ?_;refine Zf 2 Tryz.underlying221 ?_;refine Zv (aa.ag rfl rfl Tryz.underlying2 rfl k3 rfl) ?_;refine Zv (aa.build rfl rfl (kH 1 _ _)) ?_;refine Zo 4 k4 ?_;intro w6 pw6;replace ae:=ae.put k4 pw6 e4;replace k99:=k99.put pw6 (by omega);replace k1:=k1.put pw6 (by omega);replace k2:=k2.put pw6 (by omega);replace k3:=k3.put pw6 (by omega);replace k4:=pw6.av;refine bb 0 1 2 3 4 8 11 (ab.aj (aG ?_));refine Zv (aa.ag rfl rfl Tryz.underlying189 rfl k1 rfl) ?_;refine Zv (aa.nilCheck rfl rfl) ?_;refine Zf 1 Tryz.underlying219 ?_;refine Zv (aa.ag rfl rfl Tryz.underlying3 rfl k99 rfl) ?_;refine cH ?_;refine Zv (aa.nilCheck rfl rfl) ?_;refine Zf 1 Tryz.underlying219 ?_;refine Zq k99 ?_;intro w7 pw7;replace ae:=ae.put k99 pw7 e99;replace k1:=k1.put pw7 (by omega);replace k2:=k2.put pw7 (by omega);replace k3:=k3.put pw7 (by omega);replace k4:=k4.put pw7 (by omega);replace k99:=pw7.av;refine bb 0 1 2 3 4 8 11 (aG ?_);refine Zv (aa.aQ rfl rfl Tryz.underlying105 rfl k4 (m:=4) (by kernel_rfl) rfl) ?_;refine Zo 4 k2 ?_;intro w8 pw8;replace ae:=ae.put k2 pw8 e2;replace k99:=k99.put pw8 (by omega);replace k1:=k1.put pw8 (by omega);replace k3:=k3.put pw8 (by omega);replace k4:=k4.put pw8 (by omega);replace k2:=pw8.av;refine bb 0 1 2 3 4 8 11 (Zt (Cd.ret ?_));refine ab.cz rfl rfl k2 Tryz.underlying105 rfl (m:=4) (by kernel_rfl) rfl (.inl rfl) ?_;rw[hq];exact⟨ae,_,rfl,pw.next hle hp1 ae k99,fun _=>False,cw.mk (args:=[]) (vs:=[]) rfl (by simp) (by unfold bt;omega) a2 (by simp) (by simp) (fun i e v h=>by simp at h) (fun h=>absurd rfl h),fun b hb=>hb.elim⟩
 rw[if_neg c1] at hq;refine ao ?_;refine Zv (aa.aB rfl rfl rfl) ?_;refine Za ?_;refine cI 0 1 2 3 4 8 11 16 (Zt ?_);refine Cd.au rfl (fun c2=> ?_) (fun c2=> ?_)
 ·rw[if_pos c2] at hq
  have hp1:=hp (by omega);refine Zr ?_;refine Zf 2 Tryz.underlying221 ?_;refine Zv (aa.ag rfl rfl Tryz.underlying2 rfl k3 rfl) ?_;refine Zv (aa.build rfl rfl (kH 2 _ _)) ?_;refine Zo 4 k4 ?_;intro w6 pw6;replace ae:=ae.put k4 pw6 e4;replace k99:=k99.put pw6 (by omega);replace k1:=k1.put pw6 (by omega);replace k2:=k2.put pw6 (by omega);replace k3:=k3.put pw6 (by omega);replace k4:=pw6.av;refine cI 0 1 2 3 4 8 11 16 (ab.aj (aG ?_));refine Zv (aa.ag rfl rfl Tryz.underlying189 rfl k1 rfl) ?_;refine Zv (aa.nilCheck rfl rfl) ?_;refine Zf 1 Tryz.underlying219 ?_;refine Zv (aa.ag rfl rfl Tryz.underlying3 rfl k99 rfl) ?_;refine cH ?_;refine Zv (aa.nilCheck rfl rfl) ?_;refine Zf 1 Tryz.underlying219 ?_;refine Zq k99 ?_;intro w7 pw7;replace ae:=ae.put k99 pw7 e99;replace k1:=k1.put pw7 (by omega);replace k2:=k2.put pw7 (by omega);replace k3:=k3.put pw7 (by omega);replace k4:=k4.put pw7 (by omega);replace k99:=pw7.av;refine cI 0 1 2 3 4 8 11 16 (aG ?_);refine Zv (aa.aQ rfl rfl Tryz.underlying105 rfl k4 (m:=4) (by kernel_rfl) rfl) ?_;refine Zo 4 k2 ?_;intro w8 pw8;replace ae:=ae.put k2 pw8 e2;replace k99:=k99.put pw8 (by omega);replace k1:=k1.put pw8 (by omega);replace k3:=k3.put pw8 (by omega);replace k4:=k4.put pw8 (by omega);replace k2:=pw8.av;refine cI 0 1 2 3 4 8 11 16 (Zt (Cd.ret ?_));refine ab.cz rfl rfl k2 Tryz.underlying105 rfl (m:=4) (by kernel_rfl) rfl (.inl rfl) ?_;rw[hq];exact⟨ae,_,rfl,pw.next hle hp1 ae k99,fun _=>False,cw.mk (args:=[]) (vs:=[]) rfl (by simp) (by unfold bt;omega) a2 (by simp) (by simp) (fun i e v h=>by simp at h) (fun h=>absurd rfl h),fun b hb=>hb.elim⟩
 rw[if_neg c2] at hq;refine ao ?_;refine Zv (aa.aB rfl rfl rfl) ?_;refine Za ?_;refine dG 0 1 2 3 4 8 11 16 21 (Zt ?_);refine Cd.au rfl (fun c3=> ?_) (fun c3=> ?_)
 ·rw[if_pos c3] at hq
  have hp1:=hp (by omega);refine ao ?_;refine Zf 1 Tryz.underlying221 ?_;refine Zv (aa.ag rfl rfl Tryz.underlying9 rfl k3 rfl) ?_;refine dg 0 1 2 3 4 8 11 16 21 24 (Zt (Cd.block (ao ?_)));refine Zv (aa.cF (b:=zP) rfl rfl rfl a3 (by decide)) ?_;refine Za ?_;refine dr 0 1 2 3 4 8 11 16 21 24 28 (Zt ?_);refine Cd.au rfl (fun c4=> ?_) (fun c4=> ?_)
  ·rw[if_pos c4] at hq
   refine Zr ?_;refine Zv (aa.build rfl rfl (gh 4 _)) ?_;refine Zo 4 k4 ?_;intro w6 pw6;replace ae:=ae.put k4 pw6 e4;replace k99:=k99.put pw6 (by omega);replace k1:=k1.put pw6 (by omega);replace k2:=k2.put pw6 (by omega);replace k3:=k3.put pw6 (by omega);replace k4:=pw6.av;refine dr 0 1 2 3 4 8 11 16 21 24 28 (ab.aj (ab.aj (aG ?_)));refine Zv (aa.ag rfl rfl Tryz.underlying189 rfl k1 rfl) ?_;refine Zv (aa.nilCheck rfl rfl) ?_;refine Zf 1 Tryz.underlying219 ?_;refine Zv (aa.ag rfl rfl Tryz.underlying3 rfl k99 rfl) ?_;refine cH ?_;refine Zv (aa.nilCheck rfl rfl) ?_;refine Zf 1 Tryz.underlying219 ?_;refine Zq k99 ?_;intro w7 pw7;replace ae:=ae.put k99 pw7 e99;replace k1:=k1.put pw7 (by omega);replace k2:=k2.put pw7 (by omega);replace k3:=k3.put pw7 (by omega);replace k4:=k4.put pw7 (by omega);replace k99:=pw7.av;refine dr 0 1 2 3 4 8 11 16 21 24 28 (aG ?_);refine Zv (aa.aQ rfl rfl Tryz.underlying105 rfl k4 (m:=4) (by kernel_rfl) rfl) ?_;refine Zo 4 k2 ?_;intro w8 pw8;replace ae:=ae.put k2 pw8 e2;replace k99:=k99.put pw8 (by omega);replace k1:=k1.put pw8 (by omega);replace k3:=k3.put pw8 (by omega);replace k4:=k4.put pw8 (by omega);replace k2:=pw8.av;refine dr 0 1 2 3 4 8 11 16 21 24 28 (Zt (Cd.ret ?_));refine ab.cz rfl rfl k2 Tryz.underlying105 rfl (m:=4) (by kernel_rfl) rfl (.inl rfl) ?_;rw[hq];exact⟨ae,_,rfl,pw.next hle hp1 ae k99,fun _=>False,cw.mk (args:=[]) (vs:=[]) rfl (by simp) (by unfold bt;omega) (by unfold bt;omega) (by simp) (by simp) (fun i e v h=>by simp at h) (fun h=>absurd rfl h),fun b hb=>hb.elim⟩
  rw[if_neg c4] at hq;refine ao ?_;refine Zv (aa.cF (b:=Au) rfl rfl rfl a3 (by decide)) ?_;refine Za ?_;refine fG 0 1 2 3 4 8 11 16 21 24 28 31 (Zt ?_);refine Cd.au rfl (fun c5=> ?_) (fun c5=> ?_)
  ·rw[if_pos c5] at hq
   refine ao ?_;refine Zv (aa.ag rfl rfl Tryz.underlying189 rfl k1 rfl) ?_;have hcd:=lW K hK E0 hE 9 2 p d _ (pw.to hle ae k99) hp1 (by unfold bt;omega) (by omega) (by rw[←hq];exact hne);rw[←hq] at hcd;have hs0:=ae.size;have hk2:=k2.lt;rcases Rs.dy hne with ⟨q,ov,hr⟩|⟨x,q,hr⟩
   ·rw[hr] at hcd
    refine Seq.cS (Ze Tryz.func237) rfl hcd ?_;rintro e w8 ⟨hf,rfl,d6,hp6⟩;refine⟨_,rfl,fun a ha=>⟨ha.defers,?_⟩⟩;rw[hr];exact⟨ae.call hf,rfl,d6,hp6⟩
   rw[hr] at hcd;refine Zc (Ze Tryz.func237) (hcd) ?_;rintro e wq ⟨hf,v6,rfl,pwq,S,hrep,hb⟩;refine⟨_,rfl,?_⟩;replace ae:=ae.call hf;replace k2:=k2.fz hf (by omega);have hones:=hrep.aY;refine Seq.jM rfl rfl rfl rfl (m:=4) (by kernel_rfl) hones.1 (iA hones.2) k2 (by rw[hones.1];exact Nat.le_refl _) rfl rfl ?_;intro w9 p9;have pw9:=p9.all hones.1 rfl;have pb9:=ae.put k2 p9 e2;have hlt2:=k2.lt;clear k2 ae;have k2:=pw9;have ae:=pb9;obtain⟨AX,cX,hvX⟩:=hrep.form;refine fG 0 1 2 3 4 8 11 16 21 24 28 31 (Zt (Cd.ret (ab.ak (ab.ak (ab.af ?_)))));subst hvX;refine ab.cz rfl rfl k2 Tryz.underlying105 rfl (m:=4) (by kernel_rfl) rfl (.inl rfl) ?_;rw[hr];refine⟨ae,_,rfl,⟨pwq.av.put p9 (by omega),pwq.rd.below (p9.below (by omega) hlt2),pwq.bK,pwq.dU⟩,S,hrep.mono (fun _ h=>h) (fun a ha=>World.cell?_of_block (p9.grown.block _ (hb _ ha).2 (fun e=>by injection e with e;have:=(hb _ ha).1;omega))),fun b hb'=> ?_⟩;obtain⟨h1,h2⟩:=hb b hb';have:=p9.size;exact⟨by omega,by omega⟩
  rw[if_neg c5] at hq;refine ao ?_;refine Zv (aa.cF (b:=AI) rfl rfl rfl a3 (by decide)) ?_;refine Za ?_;refine gF 0 1 2 3 4 8 11 16 21 24 28 31 35 (Zt ?_);refine Cd.au rfl (fun c6=> ?_) (fun c6=> ?_)
  ·rw[if_pos c6] at hq
   refine ao ?_;refine Zv (aa.ag rfl rfl Tryz.underlying189 rfl k1 rfl) ?_;have hcd:=lW K hK E0 hE 10 2 p d _ (pw.to hle ae k99) hp1 (by unfold bt;omega) (by omega) (by rw[←hq];exact hne);rw[←hq] at hcd;have hs0:=ae.size;have hk2:=k2.lt;rcases Rs.dy hne with ⟨q,ov,hr⟩|⟨x,q,hr⟩
   ·rw[hr] at hcd
    refine Seq.cS (Ze Tryz.func237) rfl hcd ?_;rintro e w8 ⟨hf,rfl,d6,hp6⟩;refine⟨_,rfl,fun a ha=>⟨ha.defers,?_⟩⟩;rw[hr];exact⟨ae.call hf,rfl,d6,hp6⟩
   rw[hr] at hcd;refine Zc (Ze Tryz.func237) (hcd) ?_;rintro e wq ⟨hf,v6,rfl,pwq,S,hrep,hb⟩;refine⟨_,rfl,?_⟩;replace ae:=ae.call hf;replace k2:=k2.fz hf (by omega);have hones:=hrep.aY;refine Seq.jM rfl rfl rfl rfl (m:=4) (by kernel_rfl) hones.1 (iA hones.2) k2 (by rw[hones.1];exact Nat.le_refl _) rfl rfl ?_;intro w9 p9;have pw9:=p9.all hones.1 rfl;have pb9:=ae.put k2 p9 e2;have hlt2:=k2.lt;clear k2 ae;have k2:=pw9;have ae:=pb9;obtain⟨AX,cX,hvX⟩:=hrep.form;refine gF 0 1 2 3 4 8 11 16 21 24 28 31 35 (Zt (Cd.ret (ab.ak (ab.ak (ab.af ?_)))));subst hvX;refine ab.cz rfl rfl k2 Tryz.underlying105 rfl (m:=4) (by kernel_rfl) rfl (.inl rfl) ?_;rw[hr];refine⟨ae,_,rfl,⟨pwq.av.put p9 (by omega),pwq.rd.below (p9.below (by omega) hlt2),pwq.bK,pwq.dU⟩,S,hrep.mono (fun _ h=>h) (fun a ha=>World.cell?_of_block (p9.grown.block _ (hb _ ha).2 (fun e=>by injection e with e;have:=(hb _ ha).1;omega))),fun b hb'=> ?_⟩;obtain⟨h1,h2⟩:=hb b hb';have:=p9.size;exact⟨by omega,by omega⟩
  rw[if_neg c6] at hq;refine ao ?_;refine Zv (aa.cF (b:=D7) rfl rfl rfl a3 (by decide)) ?_;refine Za ?_;refine jk 0 1 2 3 4 8 11 16 21 24 28 31 35 39 (Zt ?_);refine Cd.au rfl (fun c7=> ?_) (fun c7=> ?_)
  ·rw[if_pos c7] at hq
   refine ao ?_;refine Zv (aa.ag rfl rfl Tryz.underlying189 rfl k1 rfl) ?_;have hcd:=lW K hK E0 hE 21 3 p d _ (pw.to hle ae k99) hp1 (by unfold bt;omega) (by omega) (by rw[←hq];exact hne);rw[←hq] at hcd;have hs0:=ae.size;have hk2:=k2.lt;rcases Rs.dy hne with ⟨q,ov,hr⟩|⟨x,q,hr⟩
   ·rw[hr] at hcd
    refine Seq.cS (Ze Tryz.func237) rfl hcd ?_;rintro e w8 ⟨hf,rfl,d6,hp6⟩;refine⟨_,rfl,fun a ha=>⟨ha.defers,?_⟩⟩;rw[hr];exact⟨ae.call hf,rfl,d6,hp6⟩
   rw[hr] at hcd;refine Zc (Ze Tryz.func237) (hcd) ?_;rintro e wq ⟨hf,v6,rfl,pwq,S,hrep,hb⟩;refine⟨_,rfl,?_⟩;replace ae:=ae.call hf;replace k2:=k2.fz hf (by omega);have hones:=hrep.aY;refine Seq.jM rfl rfl rfl rfl (m:=4) (by kernel_rfl) hones.1 (iA hones.2) k2 (by rw[hones.1];exact Nat.le_refl _) rfl rfl ?_;intro w9 p9;have pw9:=p9.all hones.1 rfl;have pb9:=ae.put k2 p9 e2;have hlt2:=k2.lt;clear k2 ae;have k2:=pw9;have ae:=pb9;obtain⟨AX,cX,hvX⟩:=hrep.form;refine jk 0 1 2 3 4 8 11 16 21 24 28 31 35 39 (Zt (Cd.ret (ab.ak (ab.ak (ab.af ?_)))));subst hvX;refine ab.cz rfl rfl k2 Tryz.underlying105 rfl (m:=4) (by kernel_rfl) rfl (.inl rfl) ?_;rw[hr];refine⟨ae,_,rfl,⟨pwq.av.put p9 (by omega),pwq.rd.below (p9.below (by omega) hlt2),pwq.bK,pwq.dU⟩,S,hrep.mono (fun _ h=>h) (fun a ha=>World.cell?_of_block (p9.grown.block _ (hb _ ha).2 (fun e=>by injection e with e;have:=(hb _ ha).1;omega))),fun b hb'=> ?_⟩;obtain⟨h1,h2⟩:=hb b hb';have:=p9.size;exact⟨by omega,by omega⟩
  rw[if_neg c7] at hq;have hnm:=tt K hK p d _ (pw.to hle ae k99);refine ao ?_;refine Zv (aa.ag rfl rfl Tryz.underlying189 rfl k1 rfl) ?_;rcases Rs.dy (sO K.ws p) with ⟨q,ov,hr⟩|⟨x,q,hr⟩
  ·rw[hr] at hnm hq
   refine Seq.cS (Ze Tryz.func168) rfl hnm ?_;rintro e w8 ⟨hf,rfl,d6,hp6⟩;refine⟨_,rfl,fun a ha=>⟨ha.defers,?_⟩⟩;rw[hq];exact⟨ae.call hf,rfl,d6,hp6⟩
  have hx:x=(K.at_ p).text:=by
   unfold dW at hr;split at hr
   ·injection hr with hr;rw[←hr,b2]
   ·cases hr
  rw[hr] at hnm hq;replace hq:eO K.ws E0 p d= .ok (.mk 3 0 x []) q:=hq;refine Zc (Ze Tryz.func168) (hnm) ?_;rintro e wq ⟨hf,v6,rfl,pwq,rfl⟩;refine⟨_,rfl,?_⟩;replace ae:=ae.call hf;replace k2:=k2.fz hf (by omega);replace k99:=pwq.av;have loc:=Fz.refl wq.heap.size K.g wq;have hlt2:=k2.lt;refine Zv (aa.build rfl rfl (mC 3 _ _)) ?_;refine Zo 4 k2 ?_;intro w6 pw6;replace ae:=ae.put k2 pw6 e2;replace k99:=k99.put pw6 (by omega);replace k2:=pw6.av;refine jk 0 1 2 3 4 8 11 16 21 24 28 31 35 39 (Zt (Cd.ret (ab.ak (ab.ak (ab.af ?_)))));refine ab.cz rfl rfl k2 Tryz.underlying105 rfl (m:=4) (by kernel_rfl) rfl (.inl rfl) ?_;rw[hq];exact⟨ae,_,rfl,⟨k99,pwq.rd.below (pw6.below (by omega) hlt2),pwq.bK,pwq.dU⟩,fun _=>False,cw.mk (args:=[]) (vs:=[]) rfl (by simp) (by unfold bt;omega) (by unfold bt;omega) (by rw[hx];exact a3) (by rw[hx];omega) (fun i e v h=>by simp at h) (fun h=>absurd rfl h),fun b hb=>hb.elim⟩
 rw[if_neg c3] at hq;refine ao ?_;refine Zv (aa.aB rfl rfl rfl) ?_;refine Za ?_;refine dg 0 1 2 3 4 8 11 16 21 43 (Zt ?_);refine Cd.au rfl (fun c8=> ?_) (fun c8=> ?_)
 ·rw[if_pos c8] at hq
  refine ao ?_;refine Zv (aa.ag rfl rfl Tryz.underlying189 rfl k1 rfl) ?_;refine Zv (aa.makeFunc (v:= .func (.func 238) #[] #[.pointer (some ⟨g1,0,none⟩), .pointer (some ⟨g4,0,none⟩)]) rfl (show iG _ _=some [] from rfl) (show iG _ _=some [.pointer (some ⟨g1,0,none⟩), .pointer (some ⟨g4,0,none⟩)] from rfl) rfl) ?_;refine Seq.slice (vs:=[_]) (s:=1) rfl rfl rfl Tryz.underlying225 (by kernel_rfl) (er) (by omega) (by omega) ⟨rfl,trivial⟩ rfl rfl rfl ?_;intro g47 w6 n47;have e47:=Nat.le_trans ae.size n47.ge;have l47:=Nat.lt_of_lt_of_le k4.lt n47.ge;replace ae:=ae.step n47.below;replace k99:=k99.step n47.below;replace k1:=k1.step n47.below;replace k2:=k2.step n47.below;replace k3:=k3.step n47.below;replace k4:=k4.step n47.below;have k47:=n47.av;have pw8:=pw.to hle ae k99;obtain⟨wr,hwr⟩:∃wr,wr=w6:=⟨_,rfl⟩;rw[←hwr] at pw8 ae k1 k2 k4 k47⊢;obtain⟨R,hR⟩:∃R,R=aW K.ws [E0] p d:=⟨_,rfl⟩;rw[←hR] at hq;have hneR:R≠ .out:=Rs.fa (by rw[←hq];exact hne);have hgg4:K.g<g4:=by omega
  have hwi:=jC K hK g4 [E0] [(238,[Value.pointer (some ⟨g1,0,none⟩),Value.pointer (some ⟨g4,0,none⟩)])] (some ⟨g47,0,none⟩) 1
   (fun xs W=>Kp wr W∧xP g4 g4 xs W) p d wr pw8 (Nat.le_of_lt k4.lt) rfl (by simp)
   ⟨Kp.refl wr,_,k4,rfl,fun x hx=>by simp at hx⟩
   (fun xs W W' p d hM hp hf=>⟨hM.1.fz hp.av hf,hM.2.fz hf hgg4 (Nat.le_refl _)⟩)
   (fun xs W j f cp hM hj=>by
    match j,hj with
    |0,hj=>
     simp at hj;obtain⟨e1,e2⟩:=hj;subst e1 e2;refine⟨_,rfl,?_⟩;have hb:=(hM.1.av k47).cell 0;exact hb
    |j+1,hj=>simp at hj)
   (fun j f cp hj=>by
    match j,hj with
    |0,hj=>
     simp at hj;obtain⟨e1,e2⟩:=hj;subst e1;exact Cz
    |j+1,hj=>simp at hj)
   (fun j f cp one hj ho xs W p' hxl hpw hW hM hne1=>by
    match j,hj,ho,hxl with
    |0,hj,ho,hxl=>
     simp at hj ho;obtain⟨e1,e2⟩:=hj;subst e1 e2 ho;have hx0:xs=[]:=List.eq_nil_of_length_eq_zero hxl;subst hx0;exact(xL K hK g4 g1 g4 (d+1) p' E0 W hpw hgg4 (Nat.le_refl _) hW (hM.1.av k1) hM.2 (fun W' h1 _=>hE p' (d+1) W' h1 hne1) hne1).mono fun e W' hq=>hq.mono fun a v W' h=>⟨hM.1.trans h.1,h.2⟩
    |j+1,hj,_,_=>simp at hj)
   (by rw[←hR];exact hneR)
  rw[←hR] at hwi;rcases Rs.dy hneR with ⟨q,ov,hr⟩|⟨xs,q,hr⟩
  ·rw[hr] at hwi hq
   refine Seq.cS (Ze Tryz.func166) rfl hwi ?_;rintro e w8 ⟨hf,rfl,d6,hp6⟩;refine⟨_,rfl,fun a ha=>⟨ha.defers,?_⟩⟩;rw[hq];exact⟨ae.trans (hf.less (by omega)),rfl,d6,hp6⟩
  have hxl:=et (hR.symm.trans hr)
  obtain⟨x,rfl⟩:∃x,xs=[x]:=by
   match xs,hxl with
   | [x],_=>exact⟨x,rfl⟩
  rw[hr] at hwi hq;replace hq:eO K.ws E0 p d= .ok x q:=hq;refine Zc (Ze Tryz.func166) (hwi) ?_;rintro e wq ⟨hf,v6,rfl,pwq,kpq,cs,k4q,hcs4,hx⟩;refine⟨_,rfl,?_⟩;obtain⟨S,v,rfl,hrep,hb⟩:=hx x rfl
  have k2q:aK wq g2 105 #[.int .i64 0, .int .i64 0, .string {data:= #[]}, .slice none 0 0]:=by
   have h2:aK wr g2 105 #[.int .i64 0, .int .i64 0, .string {data:= #[]}, .slice none 0 0]:=k2;have h1:=hf.block g2 (by omega) (by omega);unfold aK at h2⊢;rw[h1];exact h2
  have belq:Fz w.heap.size K.g w wq:=ae.trans (hf.less (by omega));clear ae k1 k2 k3 k4 k47 k99;have ae:=belq;have k2:=k2q;obtain⟨AX,cX,hvX⟩:=hrep.form;subst hvX;have k4:=k4q;have hlt2:=k2.lt;refine dg 0 1 2 3 4 8 11 16 21 43 (aG ?_);refine Zv (aa.aQ rfl rfl Tryz.underlying105 rfl k4 (m:=4) (by kernel_rfl) rfl) ?_;refine Zo 4 k2 ?_;intro w7 pw7;replace ae:=ae.put k2 pw7 e2;replace k4:=k4.put pw7 (by omega);replace k2:=pw7.av;refine dg 0 1 2 3 4 8 11 16 21 43 (Zt (Cd.ret (ab.ak (ab.af ?_))));refine ab.cz rfl rfl k2 Tryz.underlying105 rfl (m:=4) (by kernel_rfl) rfl (.inl rfl) ?_;rw[hq];refine⟨ae,_,rfl,⟨pwq.av.put pw7 (by omega),pwq.rd.below (pw7.below (by omega) hlt2),pwq.bK,pwq.dU⟩,S,hrep.mono (fun _ h=>h) (fun a ha=>World.cell?_of_block (pw7.grown.block _ (hb _ ha).2.1 (fun e=>by injection e with e;have:=(hb _ ha).1;omega))),fun b hb'=> ?_⟩;obtain⟨h1,h2,h3⟩:=hb b hb';have:=pw7.size;exact⟨by omega,by omega⟩
 rw[if_neg c8] at hq;refine Zr ?_;refine Zv (aa.ag rfl rfl Tryz.underlying189 rfl k1 rfl) ?_;refine Seq.cS (Ze Tryz.func165) rfl (jc K.g _) ?_;rintro e w6 ⟨rfl,hb6⟩;refine⟨_,rfl,fun a ha=>⟨ha.defers,?_⟩⟩;rw[hq];exact⟨ae.step hb6,rfl,d,pw.to hle (ae.step hb6) (k99.step hb6)⟩
theorem gR (a:Int)(g:Nat)(w:World):(Instr.build 105 #[(0, .int .i64 a),(3, .slice (some ⟨g,0,none⟩) 1 1)]).run Tryz.prog w= .ok (.agg #[.int .i64 a, .int .i64 0, .string (strOf []), .slice (some ⟨g,0,none⟩) 1 1]) w:=by
 have hu:=Tryz.underlying105
 go_simp
 rfl
structure zn (lo hi:Nat)(S:Nat→Prop)(x:Ex)(v:Value)(W:World):Prop where
 rep:cw W S x v
 bd:∀b,S b→lo≤b∧b<hi
 eH:hi≤W.heap.size
theorem zn.step {lo hi:Nat}{S:Nat→Prop}{x:Ex}{v:Value}{W W':World}(r:zn lo hi S x v W)(h:Below W.heap.size W W'):zn lo hi S x v W':=
 ⟨r.rep.mono (fun _ h=>h) (fun a ha=>h.cell (Nat.lt_of_lt_of_le (r.bd _ ha).2 r.eH)),r.bd,Nat.le_trans r.eH h.size⟩
theorem zn.put {lo hi g:Nat}{T:TypeId}{cur cs:Array Value}{S:Nat→Prop}{x:Ex}{v:Value}{W W':World}(r:zn lo hi S x v W)(_k:aK W g T cur)(p:lD W W' g T cs){E:Prop}(_e:E)(hne:g<lo∨hi≤g:=by omega):zn lo hi S x v W':=
 ⟨r.rep.mono (fun _ h=>h) (fun a ha=>World.cell?_of_block (p.grown.block _ (Nat.lt_of_lt_of_le (r.bd _ ha).2 r.eH) (fun e=>by injection e with e;have:=r.bd _ ha;omega))),r.bd,Nat.le_trans r.eH (Nat.le_of_eq p.size.symm)⟩
def CJ (K:Ctx)(S0:Nat→Nat→Rs Ex):Prop:=∀p d W,PW K W p d false→S0 p d≠ .out→Calls Tryz.prog 196 #[.pointer (some ⟨K.g,0,none⟩)] W (PR K W d (S0 p d) (nN W))
theorem yx (K:Ctx)(hK:K.Ok)(S0 E0:Nat→Nat→Rs Ex)(hS:CJ K S0)(hE:BN K E0)(p d:Nat)(w:World)(pw:PW K w p d false)(hne:bC K.ws S0 E0 p d≠ .out):
  Calls Tryz.prog 196 #[.pointer (some ⟨K.g,0,none⟩)] w (PR K w d (bC K.ws S0 E0 p d) (nN w)):=by
 have ae:=Fz.refl w.heap.size K.g w;have k99:=pw.av;have e99:K.g=K.g:=rfl;have hlt:=pw.av.lt;have hlen:=hK.len;have hle:=hK.le;have hpl:=pw.bK;have his:=fun(s:List Nat) (hs:∀x∈s,x<256) W h=>As K hK p d false 0 s W h hs;have hq:bC K.ws S0 E0 p d=if qO K.ws p [33]=true then dw S0 19 p d else if qO K.ws p [45]=true then dw S0 20 p d else eO K.ws E0 p d:=rfl
 have hp:∀s,qO K.ws p s=true→p+1≤K.ws.length:=fun s hk=>by
  rcases Nat.lt_or_ge p K.ws.length with h|h
  ·exact h
  ·unfold qO at hk
   have h1:de K.ws p=⟨-1,[],0,0⟩:=by unfold de;rw[List.getD_eq_getElem?_getD,List.getElem?_eq_none h];rfl
   rw[h1] at hk;simp at hk
 refine Zs 35 Tryz.func196 ?_;refine ao ?_;refine Zl ay ?_;intro g2 w1 n2;have e2:=Nat.le_trans ae.size n2.ge;have l2:=Nat.lt_of_lt_of_le k99.lt n2.ge;replace ae:=ae.step n2.below;replace k99:=k99.step n2.below;have k2:=n2.av;refine eh 0 2 (aG ?_);refine Za ?_;refine bD 0 2 3 (aJ (Cd.block (ao ?_)));refine Zm ?_;refine Zc (Ze Tryz.func221) (his [33] (by decide) _ (pw.to hle ae k99)) ?_;rintro e w5 ⟨rfl,hb5⟩;refine⟨_,rfl,?_⟩;replace ae:=ae.step hb5;replace k99:=k99.step hb5;replace k2:=k2.step hb5;refine Za ?_;refine aV 0 2 3 7 (Zt ?_);refine Cd.cond rfl (fun c1=> ?_) (fun c1=> ?_)
 ·have c1:qO K.ws p [33]=true:=c1
  have hp1:=hp _ c1;rw[if_pos c1] at hq;have hen:=nk K hK p d _ (pw.to hle ae k99);refine Zr ?_;refine Za ?_;refine aV 0 2 3 7 (ab.aj (aG ?_));refine Zm ?_;rcases Rs.dy (nj p d) with ⟨p2,o2,hr2⟩|⟨u2,p2,hr2⟩
  ·unfold dw at hq
   rw[hr2] at hen hq;refine Seq.cS (Ze Tryz.func209) rfl hen ?_;rintro e w6 ⟨hf,rfl,d6,hp6⟩;refine⟨_,rfl,fun a ha=>⟨ha.defers,?_⟩⟩;rw[hq];exact⟨ae.call hf,rfl,d6,hp6⟩
  have hp2:p2=p:=by
   unfold cW at hr2;split at hr2
   ·cases hr2
   ·injection hr2 with _ h;exact h.symm
  subst hp2;unfold dw at hq;rw[hr2] at hen hq;replace hq:bC K.ws S0 E0 p2 d=(S0 (p2+1) (d+1)).bind fun x p=> .ok (.mk 19 0 [] [x]) p:=hq;have hne1:S0 (p2+1) (d+1)≠ .out:=Rs.fa (by rw[←hq];exact hne);refine Zc (Ze Tryz.func209) (hen) ?_;rintro e we ⟨hfe,v6,rfl,pwe,-⟩;refine⟨_,rfl,?_⟩;replace ae:=ae.call hfe;replace k2:=k2.fz hfe (by omega);replace k99:=pwe.av;have loc:=Fz.refl we.heap.size K.g we;refine aV 0 2 3 7 (aG ?_);refine Zm ?_;refine Zv (aa.nilCheck rfl rfl) ?_;refine Zf 1 Tryz.underlying219 ?_;refine Zv (aa.ag rfl rfl Tryz.underlying3 rfl k99 rfl) ?_;refine cH ?_;refine Zv (aa.nilCheck rfl rfl) ?_;refine Zf 1 Tryz.underlying219 ?_;refine Zq k99 ?_;intro w2 pw2;replace ae:=ae.put k99 pw2 e99;replace k2:=k2.put pw2 (by omega);replace loc:=loc.put k99 pw2 e99;replace k99:=pw2.av;refine aV 0 2 3 7 (aG ?_);refine Zm ?_;have pwn:=pwe.next hle hp1 loc k99;have hun:=hS (p2+1) (d+1) _ pwn hne1;rcases Rs.dy hne1 with ⟨q,ov,hr⟩|⟨x,q,hr⟩
  ·rw[hr] at hun hq
   refine Seq.cS (Ze Tryz.func196) rfl hun ?_;rintro e w6 ⟨hf,rfl,d6,hp6⟩;refine⟨_,rfl,fun a ha=>⟨ha.defers,?_⟩⟩;rw[hq];exact⟨ae.call hf,rfl,d6,hp6⟩
  rw[hr] at hun hq;replace hq:bC K.ws S0 E0 p2 d= .ok (.mk 19 0 [] [x]) q:=hq;have hk2:=k2.lt;have hsb:=ae.size;refine Zc (Ze Tryz.func196) (hun) ?_;rintro e wq ⟨hf,v6,rfl,pwq,S,hrep,hb⟩;refine⟨_,rfl,?_⟩;replace ae:=ae.call hf;replace k2:=k2.fz hf (by omega);replace k99:=pwq.av;have hones:=hrep.aY;have hsf:=hf.size;have rs:zn _ wq.heap.size S x v6 wq:=⟨hrep,hb,Nat.le_refl _⟩;clear loc;obtain⟨AX,cX,hvX⟩:=hrep.form;subst hvX;have hd64:=pwq.deep;refine Zl ay ?_;intro g4 w3 n4;have q4:=n4.ge;have e4:=Nat.le_trans ae.size n4.ge;have l4:=Nat.lt_of_lt_of_le k2.lt n4.ge;replace ae:=ae.step n4.below;replace k99:=k99.step n4.below;replace k2:=k2.step n4.below;replace rs:=rs.step n4.below;have k4:=n4.av;refine Zo 4 k4 ?_;intro w4 pw4;replace ae:=ae.put k4 pw4 e4;replace k99:=k99.put pw4 (by omega);replace k2:=k2.put pw4 (by omega);replace rs:=rs.put k4 pw4 e4;replace k4:=pw4.av;refine aU 0 2 3 4 7 (aG ?_);refine Zm ?_;refine Zv (aa.nilCheck rfl rfl) ?_;refine Zf 2 Tryz.underlying219 ?_;refine Zv (aa.ag rfl rfl Tryz.underlying3 rfl k99 rfl) ?_;refine Zv (aa.eU rfl rfl rfl (by omega) (by omega)) ?_;refine Zv (aa.nilCheck rfl rfl) ?_;refine Zf 2 Tryz.underlying219 ?_;refine Zq k99 ?_;intro w5 pw5;replace ae:=ae.put k99 pw5 e99;replace k2:=k2.put pw5 (by omega);replace rs:=rs.put k99 pw5 e99;replace k4:=k4.put pw5 (by omega);replace k99:=pw5.av;refine aU 0 2 3 4 7 (aG ?_);refine Zm ?_;refine Zv (aa.aQ rfl rfl Tryz.underlying105 rfl k4 (m:=4) (by kernel_rfl) rfl) ?_;refine Seq.slice (vs:=[_]) (s:=4) rfl rfl rfl Tryz.underlying68 (by kernel_rfl) (ay) (by omega) (by omega) ⟨rfl,trivial⟩ rfl rfl rfl ?_;intro g33 w6 n33;have q33:=n33.ge;have e33:=Nat.le_trans ae.size n33.ge;have l33:=Nat.lt_of_lt_of_le k4.lt n33.ge;replace ae:=ae.step n33.below;replace k99:=k99.step n33.below;replace k2:=k2.step n33.below;replace rs:=rs.step n33.below;replace k4:=k4.step n33.below;have k33:=n33.av;refine Zv (aa.build rfl rfl (gR 19 _ _)) ?_;refine Zo 4 k2 ?_;intro w7 pw7;replace ae:=ae.put k2 pw7 e2;replace k99:=k99.put pw7 (by omega);replace rs:=rs.put k2 pw7 e2;replace k4:=k4.put pw7 (by omega);replace k33:=k33.put pw7 (by omega);replace k2:=pw7.av;refine aU 0 2 3 4 7 (Zt (Cd.ret ?_));refine ab.cz rfl rfl k2 Tryz.underlying105 rfl (m:=4) (by kernel_rfl) rfl (.inl rfl) ?_;have hcast:((d+1:Nat):Int)-1=(d:Int):=by omega
  rw[hcast] at k99;rw[hq];have hadd:(⟨g33,0,none⟩:Addr).add=fun j=>⟨g33,j,none⟩:=by funext j;unfold Addr.add;split<;>simp_all
  refine⟨ae,_,rfl,⟨k99,pw.rd.below (ae.below (by omega) hle),pwq.bK, .inl (by omega)⟩,(fun b=>S b∨b=g33),cw.mk (args:=[x]) (vs:=[.agg #[.int .i64 x.op, .int .i64 x.n, .string (strOf x.name), .slice AX x.args.length cX]]) rfl (by simp) (by unfold bt;omega) (by unfold bt;omega) (by simp) (by simp) (fun i e v h1 h2=> ?_) (fun _=>⟨⟨g33,0,none⟩,rfl, .inr rfl,fun j u hu=> ?_⟩),fun b hb'=> ?_⟩
  ·match i,h1,h2 with
   |0,h1,h2=>
    simp at h1 h2;subst h1 h2;exact rs.rep.mono (fun _ h=> .inl h) (fun _ _=>rfl)
   |i+1,h1,_=>simp at h1
  ·rw[hadd,k33.cell j]
   have hu2:(aP [Value.agg #[.int .i64 x.op, .int .i64 x.n, .string (strOf x.name), .slice AX x.args.length cX]]).toArray[j]? =some u:=by simpa using hu
   exact hu2
  ·rcases hb' with hb'|rfl
   ·obtain⟨h1,h2⟩:=hb b hb'
    have:=rs.eH;exact⟨by omega,by omega⟩
   ·exact⟨by omega,k33.lt⟩
 have c1:qO K.ws p [33]=false:=c1;rw[if_neg (by rw[c1];simp)] at hq;refine ao ?_;refine Zm ?_;refine Zc (Ze Tryz.func221) (his [45] (by decide) _ (pw.to hle ae k99)) ?_;rintro e w6 ⟨rfl,hb6⟩;refine⟨_,rfl,?_⟩;replace ae:=ae.step hb6;replace k99:=k99.step hb6;replace k2:=k2.step hb6;refine Za ?_;refine aU 0 2 3 7 10 (Zt ?_);refine Cd.cond rfl (fun c2=> ?_) (fun c2=> ?_)
 ·have c2:qO K.ws p [45]=true:=c2
  have hp1:=hp _ c2;rw[if_pos c2] at hq;have hen:=nk K hK p d _ (pw.to hle ae k99);refine Zr ?_;refine Za ?_;refine aU 0 2 3 7 10 (ab.aj (aG ?_));refine Zm ?_;rcases Rs.dy (nj p d) with ⟨p2,o2,hr2⟩|⟨u2,p2,hr2⟩
  ·unfold dw at hq
   rw[hr2] at hen hq;refine Seq.cS (Ze Tryz.func209) rfl hen ?_;rintro e w6 ⟨hf,rfl,d6,hp6⟩;refine⟨_,rfl,fun a ha=>⟨ha.defers,?_⟩⟩;rw[hq];exact⟨ae.call hf,rfl,d6,hp6⟩
  have hp2:p2=p:=by
   unfold cW at hr2;split at hr2
   ·cases hr2
   ·injection hr2 with _ h;exact h.symm
  subst hp2;unfold dw at hq;rw[hr2] at hen hq;replace hq:bC K.ws S0 E0 p2 d=(S0 (p2+1) (d+1)).bind fun x p=> .ok (.mk 20 0 [] [x]) p:=hq;have hne1:S0 (p2+1) (d+1)≠ .out:=Rs.fa (by rw[←hq];exact hne);refine Zc (Ze Tryz.func209) (hen) ?_;rintro e we ⟨hfe,v6,rfl,pwe,-⟩;refine⟨_,rfl,?_⟩;replace ae:=ae.call hfe;replace k2:=k2.fz hfe (by omega);replace k99:=pwe.av;have loc:=Fz.refl we.heap.size K.g we;refine aU 0 2 3 7 10 (aG ?_);refine Zm ?_;refine Zv (aa.nilCheck rfl rfl) ?_;refine Zf 1 Tryz.underlying219 ?_;refine Zv (aa.ag rfl rfl Tryz.underlying3 rfl k99 rfl) ?_;refine cH ?_;refine Zv (aa.nilCheck rfl rfl) ?_;refine Zf 1 Tryz.underlying219 ?_;refine Zq k99 ?_;intro w2 pw2;replace ae:=ae.put k99 pw2 e99;replace k2:=k2.put pw2 (by omega);replace loc:=loc.put k99 pw2 e99;replace k99:=pw2.av;refine aU 0 2 3 7 10 (aG ?_);refine Zm ?_;have pwn:=pwe.next hle hp1 loc k99;have hun:=hS (p2+1) (d+1) _ pwn hne1;rcases Rs.dy hne1 with ⟨q,ov,hr⟩|⟨x,q,hr⟩
  ·rw[hr] at hun hq
   refine Seq.cS (Ze Tryz.func196) rfl hun ?_;rintro e w6 ⟨hf,rfl,d6,hp6⟩;refine⟨_,rfl,fun a ha=>⟨ha.defers,?_⟩⟩;rw[hq];exact⟨ae.call hf,rfl,d6,hp6⟩
  rw[hr] at hun hq;replace hq:bC K.ws S0 E0 p2 d= .ok (.mk 20 0 [] [x]) q:=hq;have hk2:=k2.lt;have hsb:=ae.size;refine Zc (Ze Tryz.func196) (hun) ?_;rintro e wq ⟨hf,v6,rfl,pwq,S,hrep,hb⟩;refine⟨_,rfl,?_⟩;replace ae:=ae.call hf;replace k2:=k2.fz hf (by omega);replace k99:=pwq.av;have hones:=hrep.aY;have hsf:=hf.size;have rs:zn _ wq.heap.size S x v6 wq:=⟨hrep,hb,Nat.le_refl _⟩;clear loc;obtain⟨AX,cX,hvX⟩:=hrep.form;subst hvX;have hd64:=pwq.deep;refine Zl ay ?_;intro g4 w3 n4;have q4:=n4.ge;have e4:=Nat.le_trans ae.size n4.ge;have l4:=Nat.lt_of_lt_of_le k2.lt n4.ge;replace ae:=ae.step n4.below;replace k99:=k99.step n4.below;replace k2:=k2.step n4.below;replace rs:=rs.step n4.below;have k4:=n4.av;refine Zo 4 k4 ?_;intro w4 pw4;replace ae:=ae.put k4 pw4 e4;replace k99:=k99.put pw4 (by omega);replace k2:=k2.put pw4 (by omega);replace rs:=rs.put k4 pw4 e4;replace k4:=pw4.av;refine bj 0 2 3 4 7 10 (aG ?_);refine Zm ?_;refine Zv (aa.nilCheck rfl rfl) ?_;refine Zf 2 Tryz.underlying219 ?_;refine Zv (aa.ag rfl rfl Tryz.underlying3 rfl k99 rfl) ?_;refine Zv (aa.eU rfl rfl rfl (by omega) (by omega)) ?_;refine Zv (aa.nilCheck rfl rfl) ?_;refine Zf 2 Tryz.underlying219 ?_;refine Zq k99 ?_;intro w5 pw5;replace ae:=ae.put k99 pw5 e99;replace k2:=k2.put pw5 (by omega);replace rs:=rs.put k99 pw5 e99;replace k4:=k4.put pw5 (by omega);replace k99:=pw5.av;refine bj 0 2 3 4 7 10 (aG ?_);refine Zm ?_;refine Zv (aa.aQ rfl rfl Tryz.underlying105 rfl k4 (m:=4) (by kernel_rfl) rfl) ?_;refine Seq.slice (vs:=[_]) (s:=4) rfl rfl rfl Tryz.underlying68 (by kernel_rfl) (ay) (by omega) (by omega) ⟨rfl,trivial⟩ rfl rfl rfl ?_;intro g33 w6 n33;have q33:=n33.ge;have e33:=Nat.le_trans ae.size n33.ge;have l33:=Nat.lt_of_lt_of_le k4.lt n33.ge;replace ae:=ae.step n33.below;replace k99:=k99.step n33.below;replace k2:=k2.step n33.below;replace rs:=rs.step n33.below;replace k4:=k4.step n33.below;have k33:=n33.av;refine Zv (aa.build rfl rfl (gR 20 _ _)) ?_;refine Zo 4 k2 ?_;intro w7 pw7;replace ae:=ae.put k2 pw7 e2;replace k99:=k99.put pw7 (by omega);replace rs:=rs.put k2 pw7 e2;replace k4:=k4.put pw7 (by omega);replace k33:=k33.put pw7 (by omega);replace k2:=pw7.av;refine bj 0 2 3 4 7 10 (Zt (Cd.ret ?_));refine ab.cz rfl rfl k2 Tryz.underlying105 rfl (m:=4) (by kernel_rfl) rfl (.inl rfl) ?_;have hcast:((d+1:Nat):Int)-1=(d:Int):=by omega
  rw[hcast] at k99;rw[hq];have hadd:(⟨g33,0,none⟩:Addr).add=fun j=>⟨g33,j,none⟩:=by funext j;unfold Addr.add;split<;>simp_all
  refine⟨ae,_,rfl,⟨k99,pw.rd.below (ae.below (by omega) hle),pwq.bK, .inl (by omega)⟩,(fun b=>S b∨b=g33),cw.mk (args:=[x]) (vs:=[.agg #[.int .i64 x.op, .int .i64 x.n, .string (strOf x.name), .slice AX x.args.length cX]]) rfl (by simp) (by unfold bt;omega) (by unfold bt;omega) (by simp) (by simp) (fun i e v h1 h2=> ?_) (fun _=>⟨⟨g33,0,none⟩,rfl, .inr rfl,fun j u hu=> ?_⟩),fun b hb'=> ?_⟩
  ·match i,h1,h2 with
   |0,h1,h2=>
    simp at h1 h2;subst h1 h2;exact rs.rep.mono (fun _ h=> .inl h) (fun _ _=>rfl)
   |i+1,h1,_=>simp at h1
  ·rw[hadd,k33.cell j]
   have hu2:(aP [Value.agg #[.int .i64 x.op, .int .i64 x.n, .string (strOf x.name), .slice AX x.args.length cX]]).toArray[j]? =some u:=by simpa using hu
   exact hu2
  ·rcases hb' with hb'|rfl
   ·obtain⟨h1,h2⟩:=hb b hb'
    have:=rs.eH;exact⟨by omega,by omega⟩
   ·exact⟨by omega,k33.lt⟩
 have c2:qO K.ws p [45]=false:=c2;rw[if_neg (by rw[c2];simp)] at hq;rw[hq] at hne;have hat:=zY K hK E0 hE p d _ (pw.to hle ae k99) hne;refine ao ?_;refine Zm ?_;rcases Rs.dy hne with ⟨q,ov,hr⟩|⟨x,q,hr⟩
 ·rw[hr] at hat
  refine Seq.cS (Ze Tryz.func222) rfl hat ?_;rintro e w8 ⟨hf,rfl,d6,hp6⟩;refine⟨_,rfl,fun a ha=>⟨ha.defers,?_⟩⟩;rw[hq,hr];exact⟨ae.call hf,rfl,d6,hp6⟩
 rw[hr] at hat;have hk2:=k2.lt;have hsb:=ae.size;refine Zc (Ze Tryz.func222) (hat) ?_;rintro e wq ⟨hf,v6,rfl,pwq,S,hrep,hb⟩;refine⟨_,rfl,?_⟩;replace ae:=ae.call hf;replace k2:=k2.fz hf (by omega);obtain⟨AX,cX,hvX⟩:=hrep.form;subst hvX;have hlt2:=k2.lt;refine Zo 4 k2 ?_;intro w2 pw2;replace ae:=ae.put k2 pw2 e2;replace k2:=pw2.av;refine aU 0 2 3 7 10 (Zt (Cd.ret (ab.ak (ab.af ?_))));refine ab.cz rfl rfl k2 Tryz.underlying105 rfl (m:=4) (by kernel_rfl) rfl (.inl rfl) ?_;rw[hq,hr];refine⟨ae,_,rfl,⟨pwq.av.put pw2 (by omega),pwq.rd.below (pw2.below (by omega) hlt2),pwq.bK,pwq.dU⟩,S,hrep.mono (fun _ h=>h) (fun a ha=>World.cell?_of_block (pw2.grown.block _ (hb _ ha).2 (fun e=>by injection e with e;have:=(hb _ ha).1;omega))),fun b hb'=> ?_⟩;obtain⟨h1,h2⟩:=hb b hb';have:=pw2.size;exact⟨by omega,by omega⟩
def yU (K:Ctx)(n lvl:Nat):Prop:=∀p d W,PW K W p d false→(bH K.ws n).E lvl p d≠ .out→Calls Tryz.prog 151 #[.pointer (some ⟨K.g,0,none⟩), .int .i64 (lvl:Int)] W (PR K W d ((bH K.ws n).E lvl p d) (nN W))
theorem AB (K:Ctx)(hK:K.Ok)(n:Nat)(hS:CJ K (bH K.ws (n+1)).S):yU K (n+1) 5:=by
 intro p d w pw hne;have he:(bH K.ws (n+1)).E 5 p d=(bH K.ws (n+1)).S p d:=rfl;rw[he] at hne⊢;have ae:=Fz.refl w.heap.size K.g w;have k99:=pw.av;have e99:K.g=K.g:=rfl;have hlt:=pw.av.lt;have hle:=hK.le;refine Zs 66 Tryz.func151 ?_;refine ao ?_;refine Zl ay ?_;intro g4 w1 n4;have e4:=Nat.le_trans ae.size n4.ge;have l4:=Nat.lt_of_lt_of_le k99.lt n4.ge;replace ae:=ae.step n4.below;replace k99:=k99.step n4.below;have k4:=n4.av;refine bD 0 1 4 (aG ?_);refine Zc (Ze Tryz.func195) (pZ _) ?_;rintro e w5 ⟨gl,rfl,hb5,-⟩;refine⟨_,rfl,?_⟩;replace ae:=ae.step hb5;replace k99:=k99.step hb5;replace k4:=k4.step hb5;refine Za ?_;refine aV 0 1 4 5 (aJ (ao ?_));refine Zm ?_;refine Zm ?_;refine Zv (aa.len rfl rfl Tryz.underlying244) ?_;refine Zv (aa.aB rfl rfl rfl) ?_;refine aU 0 1 4 5 13 (Zt ?_);refine Cd.aX rfl (by decide) ?_;have hun:=hS p d _ (pw.to hle ae k99) hne;refine ao ?_;refine Zm ?_;rcases Rs.dy hne with ⟨q,ov,hr⟩|⟨x,q,hr⟩
 ·rw[hr] at hun
  refine Seq.cS (Ze Tryz.func196) rfl hun ?_;rintro e w8 ⟨hf,rfl,d6,hp6⟩;refine⟨_,rfl,fun a ha=>⟨ha.defers,?_⟩⟩;rw[hr];exact⟨ae.call hf,rfl,d6,hp6⟩
 rw[hr] at hun⊢;have hk4:=k4.lt;have hsb:=ae.size;refine Zc (Ze Tryz.func196) (hun) ?_;rintro e wq ⟨hf,v6,rfl,pwq,S,hrep,hb⟩;refine⟨_,rfl,?_⟩;replace ae:=ae.call hf;replace k4:=k4.fz hf (by omega);obtain⟨AX,cX,hvX⟩:=hrep.form;subst hvX;have hlt2:=k4.lt;refine Zo 4 k4 ?_;intro w2 pw2;replace ae:=ae.put k4 pw2 e4;replace k4:=pw2.av;refine aU 0 1 4 5 13 (Zt (Cd.ret (ab.af ?_)));refine ab.cz rfl rfl k4 Tryz.underlying105 rfl (m:=4) (by kernel_rfl) rfl (.inl rfl) ?_;refine⟨ae,_,rfl,⟨pwq.av.put pw2 (by omega),pwq.rd.below (pw2.below (by omega) hlt2),pwq.bK,pwq.dU⟩,S,hrep.mono (fun _ h=>h) (fun a ha=>World.cell?_of_block (pw2.grown.block _ (hb _ ha).2 (fun e=>by injection e with e;have:=(hb _ ha).1;omega))),fun b hb'=> ?_⟩;obtain⟨h1,h2⟩:=hb b hb';have:=pw2.size;exact⟨by omega,by omega⟩
theorem yV {ws:List Wd}{lvl p:Nat}(h:(de ws p).kind≠0∨sA (cN lvl) (de ws p).text<0):opAt ws lvl p=none:=by
 unfold opAt;split
 ·rfl
 ·rename_i hk
  rcases h with h|h
  ·exact absurd h hk
  ·unfold sA at h
   split at h
   ·omega
   ·rename_i hm
    rw[if_neg hm]
theorem yH {ws:List Wd}{lvl p:Nat}(h1:(de ws p).kind=0)(h2:¬sA (cN lvl) (de ws p).text<0):∃(i:Nat) (op:Int),sA (cN lvl) (de ws p).text=(i:Int)∧i<(gH lvl).length∧(gH lvl)[i]? =some op∧opAt ws lvl p=some op∧bt op:=by
 have hlen:∀lvl,(cN lvl).length=(gH lvl).length:=fun lvl=>by
  unfold cN gH;split<;>rfl
 unfold sA at h2⊢;split at h2
 ·rename_i hm
  rw[if_pos hm];have hi:=List.idxOf_lt_length_of_mem hm;rw[hlen] at hi;obtain⟨op,hop⟩:∃op,(gH lvl)[(cN lvl).idxOf (de ws p).text]? =some op:=⟨_,List.getElem?_eq_getElem hi⟩;refine⟨_,op,rfl,hi,hop,?_,?_⟩
  ·unfold opAt
   rw[if_neg (by simp[h1]),if_pos hm,hop]
  ·have hm2:=List.mem_of_getElem? hop
   have:∀lvl,∀x∈gH lvl,bt x:=fun lvl=>by
    unfold gH;split<;>simp[bt]
   exact this lvl op hm2
 ·omega
def eJ (lo hi ex:Nat)(x:Ex)(v:Value)(W:World):Prop:=hi≤W.heap.size∧∃S:Nat→Prop,cw W S x v∧∀b,S b→lo<b∧b<hi∧b≠ex
theorem eJ.ew {lo hi ex:Nat}{x:Ex}{v:Value}{W W':World}(m:eJ lo hi ex x v W)(hs:W.heap.size≤W'.heap.size)(hb:∀b,lo<b→b<hi→b≠ex→W'.heap[b]? =W.heap[b]?):eJ lo hi ex x v W':=by
 obtain⟨h0,S,h1,h2⟩:=m;exact⟨Nat.le_trans h0 hs,S,h1.mono (fun _ h=>h) (fun a ha=>World.cell?_of_block (hb _ (h2 _ ha).1 (h2 _ ha).2.1 (h2 _ ha).2.2)),h2⟩
theorem eJ.step {lo hi ex:Nat}{x:Ex}{v:Value}{W W':World}(m:eJ lo hi ex x v W)(h:Below W.heap.size W W'):eJ lo hi ex x v W':=m.ew h.size fun b _ h2 _=>h.block b (Nat.lt_of_lt_of_le h2 m.1)
theorem eJ.fz {lo hi ex g:Nat}{x:Ex}{v:Value}{W W':World}(m:eJ lo hi ex x v W)(h:Fz W.heap.size g W W')(hg:g≤lo):eJ lo hi ex x v W':=m.ew h.size fun b h1 h2 _=>h.block b (Nat.lt_of_lt_of_le h2 m.1) (by omega)
theorem eJ.put {lo hi ex g:Nat}{x:Ex}{v:Value}{T:TypeId}{cur cs:Array Value}{W W':World}{E:Prop}(m:eJ lo hi ex x v W)(_k:aK W g T cur)(p:lD W W' g T cs)(_e:E)(hg:g≤lo∨g=ex∨hi≤g:=by omega):eJ lo hi ex x v W':=
 m.ew (Nat.le_of_eq p.size.symm) fun b h1 h2 h3=>p.grown.block b (Nat.lt_of_lt_of_le h2 m.1) (fun e=>by injection e with e;omega)
theorem eJ.but {lo hi ex g:Nat}{x:Ex}{v:Value}{W:World}(m:eJ lo hi ex x v W)(hg:hi≤g):eJ lo hi g x v W:=by
 obtain⟨h0,S,h1,h2⟩:=m;exact⟨h0,S,h1,fun b h=>⟨(h2 b h).1,(h2 b h).2.1,fun e=>by have:=(h2 b h).2.1;omega⟩⟩
theorem eJ.up {lo hi ex:Nat}{x:Ex}{v:Value}{W:World}(m:eJ lo hi ex x v W):eJ lo W.heap.size ex x v W:=by
 obtain⟨h0,S,h1,h2⟩:=m;exact⟨Nat.le_refl _,S,h1,fun b h=>⟨(h2 b h).1,Nat.lt_of_lt_of_le (h2 b h).2.1 h0,(h2 b h).2.2⟩⟩
abbrev rj (x:Ex)(A:Option Addr)(c:Nat):Array Value:= #[.int .i64 x.op, .int .i64 x.n, .string (strOf x.name), .slice A x.args.length c]
theorem sb (a:Int)(g:Nat)(w:World):(Instr.build 105 #[(0, .int .i64 a),(3, .slice (some ⟨g,0,none⟩) 2 2)]).run Tryz.prog w= .ok (.agg #[.int .i64 a, .int .i64 0, .string (strOf []), .slice (some ⟨g,0,none⟩) 2 2]) w:=nT a g w
theorem Bv (K:Ctx)(hK:K.Ok)(n lvl:Nat)(hlt5:lvl<5)(hup:yU K (n+1) (lvl+1))(hall:∀m,m≤n→yU K m (lvl+1)):yU K (n+1) lvl:=by
 intro p d w pw hne;have he:=wM K.ws n lvl p d hlt5;obtain⟨R,hR⟩:∃R,R=(bH K.ws (n+1)).E lvl p d:=⟨_,rfl⟩;rw[←hR] at hne⊢;rw[←hR] at he;have ae:=Fz.refl w.heap.size K.g w;have k99:=pw.av;have e99:K.g=K.g:=rfl;have hlt:=pw.av.lt;have hle:=hK.le;have hlen:=hK.len;have hne1:(bH K.ws (n+1)).E (lvl+1) p d≠ .out:=Rs.fa (by rw[←he];exact hne);refine Zs 66 Tryz.func151 ?_;refine ao ?_;refine Zl ay ?_;intro g4 w1 n4;have e4:=Nat.le_trans ae.size n4.ge;have l4:=Nat.lt_of_lt_of_le k99.lt n4.ge;replace ae:=ae.step n4.below;replace k99:=k99.step n4.below;have k4:=n4.av;refine bD 0 1 4 (aG ?_);refine Zc (Ze Tryz.func195) (pZ _) ?_;rintro e wlv ⟨gl,rfl,hb5,hlv⟩;refine⟨_,rfl,?_⟩;obtain⟨ga,gb,cc,dd,csl,lv⟩:=hlv lvl hlt5;replace ae:=ae.step hb5;replace k99:=k99.step hb5;replace k4:=k4.step hb5;have kp:=Kp.refl wlv;refine Za ?_;refine aV 0 1 4 5 (aJ (ao ?_));refine Zm ?_;refine Zm ?_;refine Zv (aa.len rfl rfl Tryz.underlying244) ?_;refine Zv (aa.aB rfl rfl rfl) ?_;refine aU 0 1 4 5 13 (Zt ?_);refine Cd.aN rfl (decide_eq_false (by omega)) ?_;refine Cd.skip (aG ?_);refine Zm ?_;refine Zm ?_;refine cH ?_;have hcl:=hup p d _ (pw.to hle ae k99) hne1;have hcast:((lvl+1:Nat):Int)=(lvl:Int)+1:=by omega
 rw[hcast] at hcl;rcases Rs.dy hne1 with ⟨q,ov,hr⟩|⟨x,q,hr⟩
 ·rw[hr] at hcl he
  refine Seq.cS (Ze Tryz.func151) rfl hcl ?_;rintro e w8 ⟨hf,rfl,d6,hp6⟩;refine⟨_,rfl,fun a ha=>⟨ha.defers,?_⟩⟩;rw[he];exact⟨ae.call hf,rfl,d6,hp6⟩
 rw[hr] at hcl he;replace he:R=(bH K.ws (n+1)).L lvl x q d:=he;have hk4:=k4.lt;have hsb:=ae.size;refine Zc (Ze Tryz.func151) (hcl) ?_;rintro e wq ⟨hf,v6,rfl,pwq,S,hrep,hb⟩;refine⟨_,rfl,?_⟩;replace ae:=ae.call hf;replace k4:=k4.fz hf (by omega);replace kp:=kp.fz k99 hf;replace k99:=pwq.av;obtain⟨AX,cX,hvX⟩:=hrep.form;subst hvX;have rs:eJ g4 wq.heap.size 0 x (.agg (rj x AX cX)) wq:=⟨Nat.le_refl _,S,hrep,fun b h=>⟨by have:=(hb b h).1;omega,(hb b h).2,by have:=(hb b h).1;omega⟩⟩;refine Zl ay ?_;intro g6 w2 n6;have q6:=n6.ge;have e6:=Nat.le_trans ae.size n6.ge;have l6:=Nat.lt_of_lt_of_le k4.lt n6.ge;replace ae:=ae.step n6.below;replace k99:=k99.step n6.below;replace k4:=k4.step n6.below;replace kp:=kp.step n6.below;replace rs:=rs.step n6.below;have k6:=n6.av;refine Zo 4 k6 ?_;intro w3 pw3;replace ae:=ae.put k6 pw3 e6;replace k99:=k99.put pw3 (by omega);replace k4:=k4.put pw3 (by omega);replace kp:=kp.put k6 pw3 e6;replace rs:=rs.put k6 pw3 e6;replace k6:=pw3.av;refine bj 0 1 4 5 6 13 (Zt (Cd.block ?_));have h46:g4<g6:=by have:=hf.size;omega
 have h96:K.g<g6:=by omega
 refine Cd.loop (σ:=Nat × Ex × (Option Addr × Nat) × Nat) (fun s=>[(0, .pointer (some ⟨K.g,0,none⟩)),(1, .int .i64 (lvl:Int)),(4, .pointer (some ⟨g4,0,none⟩)),(5, .slice (some ⟨gl,0,none⟩) 5 5),(6, .pointer (some ⟨g6,0,none⟩))])
  (fun s wr=>PW K wr s.2.2.2 d false∧Fz w.heap.size K.g w wr∧aK wr g4 105 #[.int .i64 0, .int .i64 0, .string {data:= #[]}, .slice none 0 0]∧aK wr g6 105 (rj s.2.1 s.2.2.1.1 s.2.2.1.2)∧Kp wlv wr∧eJ g4 wr.heap.size g6 s.2.1 (.agg (rj s.2.1 s.2.2.1.1 s.2.2.1.2)) wr∧s.1≤n+1∧R=(bH K.ws s.1).L lvl s.2.1 s.2.2.2 d)
  (fun s=>s.1) (n+1,x,(AX,cX),q) ⟨⟨k99,pw.rd.below (ae.below (by omega) hle),pwq.bK,pwq.dU⟩,ae,k4,k6,kp,(rs.but q6).up,Nat.le_refl _,he⟩ ⟨rfl,rfl,rfl,rfl,rfl,trivial⟩ ?_
 clear ae k4 k6 kp rs k99 he hne1 hr hcl;rintro⟨m,left,⟨AL,cL⟩,pl⟩ wr ⟨pw1,ae,k4,k6,kp,rs,hm,he⟩;dsimp only at pw1 k6 rs hm he⊢;have k99:=pw1.av;have h4r:=k4.lt;have hkps:=kp.size
 obtain⟨m,rfl⟩:∃m',m=m'+1:=by
  cases m with
  |zero=>exact absurd he (by intro h;exact hne (by rw[h];rfl))
  |succ m=>exact⟨m,rfl⟩
 have hstep:R=dC K.ws (bH K.ws m) lvl left pl d:=he;clear he;obtain⟨b1,b2,b3⟩:=K.ju pl;obtain⟨a1,a2,a3,a4,a5⟩:=hK.at_ pl
 have hsig:∀t∈cN lvl,∀x∈t,x<256:=by
  have:∀lvl,∀t∈cN lvl,∀x∈t,x<256:=fun lvl=>by
   unfold cN;split<;>decide
  exact this lvl
 have hw:=gA K hK pl d false wr pw1;unfold DQ at hw;refine Cd.block (ao ?_);refine Zm ?_;refine Zc (Ze Tryz.func164) (hw) ?_;rintro e w8 ⟨rfl,hb8⟩;refine⟨_,rfl,?_⟩;have hs8:=hb8.size;replace ae:=ae.step hb8;replace k99:=k99.step hb8;replace k4:=k4.step hb8;replace kp:=kp.step hb8;replace rs:=rs.step hb8;replace k6:=k6.step hb8;refine Zl bJ ?_;intro g7 w4 n7;have q7:=n7.ge;have e7:=Nat.le_trans ae.size n7.ge;have l7:=Nat.lt_of_lt_of_le k6.lt n7.ge;replace ae:=ae.step n7.below;replace k99:=k99.step n7.below;replace k4:=k4.step n7.below;replace kp:=kp.step n7.below;replace rs:=rs.step n7.below;replace k6:=k6.step n7.below;have k7:=n7.av;refine Zo 4 k7 ?_;intro w5 pw5;replace ae:=ae.put k7 pw5 e7;replace k99:=k99.put pw5 (by omega);replace k4:=k4.put pw5 (by omega);replace kp:=kp.put k7 pw5 e7;replace rs:=rs.put k7 pw5 e7;replace k6:=k6.put pw5 (by omega);replace k7:=pw5.av;refine bj 0 1 4 5 6 7 (aJ ?_)
 have haddL:Value.pointer (some ((⟨gl,0,none⟩:Addr).add (lvl*3)))= .pointer (some ⟨gl,lvl*3,none⟩):=by
  have:(⟨gl,0,none⟩:Addr).add (lvl*3)=⟨gl,lvl*3,none⟩:=by unfold Addr.add;split<;>simp_all
  rw[this]
 have hsl:(cN lvl).length≤1000:=by
  have:∀lvl,(cN lvl).length≤1000:=fun lvl=>by
   unfold cN;split<;>simp
  exact this lvl
 have hsv:(r6 (cN lvl)).toArray.size=(cN lvl).length*1:=by simp[r6]
 refine Cd.draw 8 (by kernel_rfl) [] (.inl rfl) rfl Grow Grow.refl (fun _ _ _=>Grow.trans) ?_;intro w6 hw6 zw6;replace ae:=ae.step hw6;replace k99:=k99.step hw6;replace k4:=k4.step hw6;replace kp:=kp.step hw6;replace rs:=rs.step hw6;replace k6:=k6.step hw6;replace k7:=k7.step hw6;have zbel:=ae.size;have zlt:=k7.lt;have kl:aK _ gl 248 csl:=kp.av lv.Eo;have ksg:=kp.av lv.sg;have kop:=kp.av lv.op;refine cn ?_;refine cn ?_;refine Zd (fun w hG=>(aa.bI rfl rfl rfl Tryz.underlying244 (s:=3) (by kernel_rfl) (j:=lvl) rfl (by omega)).cast haddL) ?_;refine Zd (fun w hG=>aa.fL 0 rfl rfl Tryz.underlying248 rfl (by kernel_rfl)) ?_;refine Zd (fun w hG=>aa.ag (g:=gl) (i:=lvl*3) rfl rfl Tryz.underlying66 rfl (kl.step hG) lv.s0) ?_;refine Zd (fun w hG=>aa.an 1 rfl rfl Tryz.underlying221 rfl (by kernel_rfl)) ?_;refine Zd (fun w hG=>aa.ag rfl rfl Tryz.underlying9 rfl (k7.step hG) rfl) ?_;refine Dr.bP rfl (fun w=>Ze Tryz.func139) rfl (fun w hG=>vr (cN lvl) (K.at_ pl).text (some ⟨ga,0,none⟩) cc w.heap.size w (Reads.av (ksg.step hG) _ hsv) (Nat.le_refl _) hsl hsig a3) ?_;refine Dr.nil ?_;refine ba.done (F':=[(0,_),(1,_),(4,_),(5,_),(6,_),(7,_),(29,_)]) rfl ⟨rfl,rfl,rfl,rfl,rfl,rfl,rfl,trivial⟩ ?_;intro w7 hw7 fw7;replace ae:=ae.step hw7;replace k99:=k99.step hw7;replace k4:=k4.step hw7;replace kp:=kp.step hw7;replace rs:=rs.step hw7;replace k6:=k6.step hw7;replace k7:=k7.step hw7;clear kl ksg kop;refine Za ?_;refine bb 0 1 4 5 6 7 8 (aJ (ao ?_));refine Zf 0 Tryz.underlying221 ?_;refine Zv (aa.ag rfl rfl Tryz.underlying3 rfl k7 rfl) ?_;refine Zv (aa.bN rfl rfl rfl) ?_;refine Zm ?_;refine ah.start ?_;refine bM (fun hcx=>aa.move rfl rfl) ?_;refine ah.next rfl rfl rfl rfl rfl rfl rfl (fun hcx=>aa.lss rfl rfl rfl) ?_;refine ah.or rfl rfl rfl rfl rfl rfl rfl ?_;refine cI 0 1 4 5 6 7 8 36 (Zt ?_);have pwc:PW K _ pl d false:=⟨k99,pw.rd.below (ae.below (by omega) hle),pw1.bK,pw1.dU⟩;refine Cd.cond rfl (fun hc=> ?_) (fun hc=> ?_)
 ·have hop:opAt K.ws lvl pl=none:=yV (by
   rw[←b1,←b2]
   simpa using hc)
  have hres:R= .ok left pl:=by rw[hstep];unfold dC;rw[hop]
  have hlt4:=k4.lt;have hlt6:=k6.lt;refine ao ?_;refine Zv (aa.aQ rfl rfl Tryz.underlying105 rfl k6 (m:=4) (by kernel_rfl) rfl) ?_;refine Zo 4 k4 ?_;intro w8 pw8;replace ae:=ae.put k4 pw8 e4;replace k99:=k99.put pw8 (by omega);replace kp:=kp.put k4 pw8 e4;replace rs:=rs.put k4 pw8 e4;replace k6:=k6.put pw8 (by omega);replace k7:=k7.put pw8 (by omega);replace k4:=pw8.av;refine cI 0 1 4 5 6 7 8 36 (Zt (Cd.ret (ab.af (ab.ak (ab.bF (ab.ak ?_))))));refine ab.cz rfl rfl k4 Tryz.underlying105 rfl (m:=4) (by kernel_rfl) rfl (.inl rfl) ?_;rw[hres];have kk:=k99;obtain⟨hhi,S',hrep',hb'⟩:=rs;exact⟨ae,_,rfl,⟨k99,pw.rd.below (ae.below (by omega) hle),pw1.bK,pw1.dU⟩,S',hrep',fun b h=>⟨by have:=(hb' b h).1;omega,by have:=(hb' b h).2.1;omega⟩⟩
 obtain⟨hk0,hix⟩:(de K.ws pl).kind=0∧¬sA (cN lvl) (de K.ws pl).text<0:=by
  rw[←b1,←b2]
  simpa using hc
 obtain⟨ix,op,hix1,hix2,hopi,hop,hop64⟩:=yH hk0 hix;rw[←b2] at hix1;have hstep2:R=((bH K.ws m).E (lvl+1) (pl+1) d).bind fun r p=>if lvl=2 then .ok (su op left r) p else(bH K.ws m).L lvl (su op left r) p d:=by rw[hstep];unfold dC;rw[hop]
 have hp1:pl+1≤K.ws.length:=by
  rcases Nat.lt_or_ge pl K.ws.length with h|h
  ·exact h
  ·have h1:de K.ws pl=⟨-1,[],0,0⟩:=by unfold de;rw[List.getD_eq_getElem?_getD,List.getElem?_eq_none h];rfl
   rw[h1] at hk0;exact absurd hk0 (by decide)
 have hne2:(bH K.ws m).E (lvl+1) (pl+1) d≠ .out:=Rs.fa (by rw[←hstep2];exact hne);rw[hix1];refine Cd.skip (aG ?_);refine Zm ?_;refine Zv (aa.nilCheck rfl rfl) ?_;refine Zf 1 Tryz.underlying219 ?_;refine Zv (aa.ag rfl rfl Tryz.underlying3 rfl k99 rfl) ?_;refine cH ?_;refine Zv (aa.nilCheck rfl rfl) ?_;refine Zf 1 Tryz.underlying219 ?_;refine Zq k99 ?_;intro w8 pw8;replace ae:=ae.put k99 pw8 e99;replace k4:=k4.put pw8 (by omega);replace kp:=kp.put k99 pw8 e99;replace rs:=rs.put k99 pw8 e99;replace k6:=k6.put pw8 (by omega);replace k7:=k7.put pw8 (by omega);replace k99:=pw8.av;refine cI 0 1 4 5 6 7 8 36 (aJ ?_);have kl:aK _ gl 248 csl:=kp.av lv.Eo;have kop:=kp.av lv.op
 have haddI:Value.pointer (some ((⟨gb,0,none⟩:Addr).add ix))= .pointer (some ⟨gb,ix,none⟩):=by
  have:(⟨gb,0,none⟩:Addr).add ix=⟨gb,ix,none⟩:=by unfold Addr.add;split<;>simp_all
  rw[this]
 have hopc:(DI (gH lvl)).toArray[ix]? =some (.int .i64 op):=by
  rw[List.getElem?_toArray,DG,hopi];rfl
 have pwn:PW K w8 (pl+1) d false:=⟨by rw[Int.natCast_add];exact k99,pw.rd.below (ae.below (by omega) hle),hp1,pw1.dU⟩;have hw8g:K.g<w8.heap.size:=k99.lt;have hxl:=hall m (by omega);refine Cd.iC (σT:=Value × (Nat→Prop) × Nat) 15 (by kernel_rfl) rfl rfl (fun σ=>[.slice (some ⟨gl,0,none⟩) 5 5, .int .i64 (lvl:Int), .pointer (some ⟨gl,lvl*3,none⟩), .pointer (some ⟨gl,lvl*3+1,none⟩), .slice (some ⟨gb,0,none⟩) (gH lvl).length dd, .int .i64 (ix:Int), .pointer (some ⟨gb,ix,none⟩), .int .i64 op, .agg (rj left AL cL), .pointer (some ⟨K.g,0,none⟩), .int .i64 (lvl:Int), .int .i64 ((lvl:Int)+1),σ.1, .slice (some ⟨σ.2.2,0,none⟩) 2 2, .agg #[.int .i64 op, .int .i64 0, .string (strOf []), .slice (some ⟨σ.2.2,0,none⟩) 2 2]]) (fun σ S W=>XA cw K w8 (pl+1) d ((bH K.ws m).E (lvl+1) (pl+1) d) (S 12) (S 13) σ.2.1 σ.1 σ.2.2 105 (aP [.agg (rj left AL cL),σ.1]).toArray W) ((undef,fun _=>False,0)) ?_ ?_ ?_
 ·intro w0 hb0 hs0
  exact⟨Fz.of hb0,fun _=>pwn.step hle hb0,fun h=>(by cases h),fun h=>(by cases h)⟩
 ·intro k o ho
  match k,ho with
  |0,ho=>
   injection ho with ho
   subst ho;intro σ S w hS hpre hdc hX;refine Seq.val (aa.move rfl rfl) rfl rfl rfl (Seq.nil ?_);exact ab.aC rfl rfl rfl hpre rfl (fun _ _=>rfl) hX
  |1,ho=>
   injection ho with ho
   subst ho;intro σ S w hS hpre hdc hX;refine Seq.val (aa.move rfl rfl) rfl rfl rfl (Seq.nil ?_);exact ab.aC rfl rfl rfl hpre rfl (fun _ _=>rfl) hX
  |2,ho=>
   injection ho with ho
   subst ho;intro σ S w hS hpre hdc hX;refine Seq.val ((aa.bI rfl rfl rfl Tryz.underlying244 (s:=3) (by kernel_rfl) (j:=lvl) rfl (by omega)).cast haddL) rfl rfl rfl (Seq.nil ?_);exact ab.aC rfl rfl rfl hpre rfl (fun _ _=>rfl) hX
  |3,ho=>
   injection ho with ho
   subst ho;intro σ S w hS hpre hdc hX;refine Seq.val (aa.fL 1 rfl rfl Tryz.underlying248 rfl (by kernel_rfl)) rfl rfl rfl (Seq.nil ?_);exact ab.aC rfl rfl rfl hpre rfl (fun _ _=>rfl) hX
  |4,ho=>
   injection ho with ho
   subst ho;intro σ S w hS hpre hdc hX;refine Seq.val (aa.ag (g:=gl) (i:=lvl*3+1) rfl rfl Tryz.underlying96 rfl (kl.zd k99 hX.fz (Nat.le_refl _)) lv.s1) rfl rfl rfl (Seq.nil ?_);exact ab.aC rfl rfl rfl hpre rfl (fun _ _=>rfl) hX
  |5,ho=>
   injection ho with ho
   subst ho;intro σ S w hS hpre hdc hX;refine Seq.val (aa.move rfl rfl) rfl rfl rfl (Seq.nil ?_);exact ab.aC rfl rfl rfl hpre rfl (fun _ _=>rfl) hX
  |6,ho=>
   injection ho with ho
   subst ho;intro σ S w hS hpre hdc hX;refine Seq.val ((aa.iM rfl rfl rfl Tryz.underlying96 (by kernel_rfl) (j:=ix) rfl hix2).cast haddI) rfl rfl rfl (Seq.nil ?_);exact ab.aC rfl rfl rfl hpre rfl (fun _ _=>rfl) hX
  |7,ho=>
   injection ho with ho
   subst ho;intro σ S w hS hpre hdc hX;refine Seq.val (aa.ag (g:=gb) (i:=ix) rfl rfl Tryz.underlying3 rfl (kop.zd k99 hX.fz (Nat.le_refl _)) hopc) rfl rfl rfl (Seq.nil ?_);exact ab.aC rfl rfl rfl hpre rfl (fun _ _=>rfl) hX
  |8,ho=>
   injection ho with ho
   subst ho;intro σ S w hS hpre hdc hX;refine Seq.val (aa.aQ rfl rfl Tryz.underlying105 rfl (k6.fz hX.fz (by omega)) (m:=4) (by kernel_rfl) rfl) rfl rfl rfl (Seq.nil ?_);exact ab.aC rfl rfl rfl hpre rfl (fun _ _=>rfl) hX
  |9,ho=>
   injection ho with ho
   subst ho;intro σ S w hS hpre hdc hX;refine Seq.val (aa.move rfl rfl) rfl rfl rfl (Seq.nil ?_);exact ab.aC rfl rfl rfl hpre rfl (fun _ _=>rfl) hX
  |10,ho=>
   injection ho with ho
   subst ho;intro σ S w hS hpre hdc hX;refine Seq.val (aa.move rfl rfl) rfl rfl rfl (Seq.nil ?_);exact ab.aC rfl rfl rfl hpre rfl (fun _ _=>rfl) hX
  |11,ho=>
   injection ho with ho
   subst ho;intro σ S w hS hpre hdc hX;refine Seq.val (aa.jH rfl rfl rfl (by omega) (by omega)) rfl rfl rfl (Seq.nil ?_);exact ab.aC rfl rfl rfl hpre rfl (fun _ _=>rfl) hX
  |12,ho=>
   injection ho with ho
   subst ho;intro σ S w hS hpre hdc hX
   have h13:S 13=false:=by
    cases h:S 13 with
    |false=>rfl
    |true=>have:=hdc 13 _ rfl h 12 (ar rfl);rw[hS] at this;cases this
   have hcl:=hxl (pl+1) d w (hX.pre hS) hne2;rw[hcast] at hcl;rcases Rs.dy hne2 with ⟨q2,ov,hr⟩|⟨y,q2,hr⟩
   ·rw[hr] at hcl
    refine Seq.cS (Ze Tryz.func151) rfl hcl ?_;rintro e w6 ⟨hf,rfl,d6,hp6⟩;refine⟨_,rfl,fun a ha=>⟨ha.defers,?_⟩⟩;rw[hstep2,hr];exact⟨ae.call (hX.fz.call hf),rfl,d6,hp6⟩
   ·rw[hr] at hcl
    refine Zc (Ze Tryz.func151) hcl ?_;rintro e w6 ⟨hf,v6,rfl,hp6,S6,hr6,hb6⟩;refine⟨_,rfl,Seq.nil ?_⟩;have hsz:=hX.fz.size;refine ab.aC (σ:=σ) (σ':=(v6,S6,σ.2.2)) rfl rfl rfl hpre rfl (fun j hj=> ?_) ⟨hX.fz.call hf,(fun h=>by cases h),fun _=>⟨y,q2,hr,hp6,hr6,fun b hb=>⟨by have:=(hb6 b hb).1;omega,(hb6 b hb).2⟩⟩,fun hm=> ?_⟩
    ·match j,hj with
     |0,_=>rfl
     |1,_=>rfl
     |2,_=>rfl
     |3,_=>rfl
     |4,_=>rfl
     |5,_=>rfl
     |6,_=>rfl
     |7,_=>rfl
     |8,_=>rfl
     |9,_=>rfl
     |10,_=>rfl
     |11,_=>rfl
     |12,hj=>rw[hS] at hj;cases hj
     |13,_=>rfl
     |14,_=>rfl
     |j+15,_=>rfl
    ·have hm:S 13=true:=hm
     rw[h13] at hm;cases hm
  |13,ho=>
   injection ho with ho
   subst ho;intro σ S w hS hpre hdc hX;obtain⟨y,q2,q1,pz,q3,q4⟩:=hX.post (hpre 12 (ar rfl));have hones:=q3.aY
   have h14:S 14=false:=by
    cases h:S 14 with
    |false=>rfl
    |true=>have:=hdc 14 _ rfl h 13 (ar rfl);rw[hS] at this;cases this
   refine Seq.slice (vs:=[.agg (rj left AL cL),σ.1]) (s:=4) rfl rfl rfl Tryz.underlying68 (by kernel_rfl) ay (by omega) (by omega) ⟨rfl,hones.1,trivial⟩ rfl rfl rfl ?_;intro g7 w' n7;refine Seq.nil ?_;have hsz:=hX.fz.size;refine ab.aC (σ:=σ) (σ':=(σ.1,σ.2.1,g7)) rfl rfl rfl hpre rfl (fun j hj=> ?_) ⟨hX.fz.step n7.below,fun h=>(hX.pre h).step hle n7.below,fun h=> ?_,fun _=>⟨Nat.le_trans hsz n7.ge,n7.av,fun h hb=> ?_⟩⟩
   ·match j,hj with
    |0,_=>rfl
    |1,_=>rfl
    |2,_=>rfl
    |3,_=>rfl
    |4,_=>rfl
    |5,_=>rfl
    |6,_=>rfl
    |7,_=>rfl
    |8,_=>rfl
    |9,_=>rfl
    |10,_=>rfl
    |11,_=>rfl
    |12,_=>rfl
    |13,hj=>rw[hS] at hj;cases hj
    |14,hj=>rw[h14] at hj;cases hj
    |j+15,_=>rfl
   ·exact⟨y,q2,q1,pz.step hle n7.below,q3.mono (fun _ h=>h) (fun a ha=>n7.below.cell (q4 _ ha).2),fun b hb=>⟨(q4 b hb).1,Nat.lt_of_lt_of_le (q4 b hb).2 n7.below.size⟩⟩
   ·exact Nat.lt_irrefl _ (Nat.lt_of_lt_of_le (q4 _ hb).2 n7.ge)
  |14,ho=>
   injection ho with ho
   subst ho;intro σ S w hS hpre hdc hX;refine Seq.val (aa.build rfl rfl (nT _ _ _)) rfl rfl rfl (Seq.nil ?_);exact ab.aC rfl rfl rfl hpre rfl (fun _ _=>rfl) hX
  |k+15,ho=>simp at ho
 rintro⟨vy,Sy,g58⟩ S2 wz hS2 hX;obtain⟨y,q2,hr2,pwz,hrepy,hby⟩:=hX.post (hS2 12 (by decide));obtain⟨e58,k58,hn58⟩:=hX.new (hS2 13 (by decide));dsimp only at hrepy hby e58 k58 hn58;have hn58:=hn58 (hS2 12 (by decide));have fzz:=hX.fz;clear hX;have hs8:=ae.size;have hszz:=fzz.size;have hl4:=k4.lt;have hl6:=k6.lt;have belz:=ae.call fzz;have k4z:=k4.fz fzz (by omega);have k6z:=k6.fz fzz (by omega);have kpz:=kp.fz k99 fzz;have rsz:=rs.fz fzz (by omega);obtain⟨AY,cY,hvY⟩:=hrepy.form;subst hvY;obtain⟨hhi,Sl,hrepl,hbl⟩:=rsz;have hhi8:=rs.1;have hadd58:(⟨g58,0,none⟩:Addr).add=fun j=>⟨g58,j,none⟩:=by funext j;unfold Addr.add;split<;>simp_all
 have rs2:eJ g4 wz.heap.size g6 (su op left y) (.agg (rj (su op left y) (some ⟨g58,0,none⟩) 2)) wz:=by
  refine⟨Nat.le_refl _,fun b=>Sl b∨Sy b∨b=g58,cw.mk (args:=[left,y]) (vs:=[.agg (rj left AL cL), .agg (rj y AY cY)]) rfl (by simp) hop64 (by unfold bt;omega) (by simp) (by simp) (fun i e v h1 h2=> ?_) (fun _=>⟨⟨g58,0,none⟩,rfl, .inr (.inr rfl),fun j u hu=> ?_⟩),fun b hb=> ?_⟩
  ·match i,h1,h2 with
   |0,h1,h2=>
    simp at h1 h2;subst h1 h2;exact hrepl.mono (fun _ h=> .inl h) (fun _ _=>rfl)
   |1,h1,h2=>
    simp at h1 h2;subst h1 h2;exact hrepy.mono (fun _ h=> .inr (.inl h)) (fun _ _=>rfl)
   |i+2,h1,_=>simp at h1
  ·rw[hadd58,k58.cell j]
   have hu2:(aP [Value.agg (rj left AL cL),Value.agg (rj y AY cY)]).toArray[j]? =some u:=by simpa using hu
   exact hu2
  ·rcases hb with hb|hb|rfl
   ·obtain⟨h1,h2,h3⟩:=hbl b hb
    exact⟨h1,by omega,h3⟩
   ·obtain⟨h1,h2⟩:=hby b hb
    exact⟨by omega,h2,by omega⟩
   ·exact⟨by omega,k58.lt,by omega⟩
 have hstep3:R=if lvl=2 then .ok (su op left y) q2 else(bH K.ws m).L lvl (su op left y) q2 d:=by rw[hstep2,hr2];rfl
 clear ae k4 k6 kp rs k99 k7 kl kop;have ae:=belz;have k4:=k4z;have k6:=k6z;have kp:=kpz;have rs:=rs2;have k99:=pwz.av;refine Zo 4 k6 ?_;intro w9 pw9;replace ae:=ae.put k6 pw9 e6;replace kp:=kp.put k6 pw9 e6;replace rs:=rs.put k6 pw9 e6;replace k99:=k99.put pw9 (by omega);replace k4:=k4.put pw9 (by omega);replace k6:=pw9.av;refine cI 0 1 4 5 6 7 8 36 (aG ?_);refine Zm ?_;refine Zm ?_;have kl:aK _ gl 248 csl:=kp.av lv.Eo;refine Zv ((aa.bI rfl rfl rfl Tryz.underlying244 (s:=3) (by kernel_rfl) (j:=lvl) rfl (by omega)).cast haddL) ?_;refine Zv (aa.fL 2 rfl rfl Tryz.underlying248 rfl (by kernel_rfl)) ?_;refine Zv (aa.ag (g:=gl) (i:=lvl*3+2) rfl rfl Tryz.underlying4 rfl kl lv.s2) ?_;refine dG 0 1 4 5 6 7 8 36 64 (Zt ?_);refine Cd.au rfl (fun h2=> ?_) (fun h2=> ?_)
 ·rw[if_pos h2] at hstep3
  have hlt4:=k4.lt;refine ao ?_;refine Zv (aa.aQ rfl rfl Tryz.underlying105 rfl k6 (m:=4) (by kernel_rfl) rfl) ?_;refine Zo 4 k4 ?_;intro w10 pw10;replace ae:=ae.put k4 pw10 e4;replace kp:=kp.put k4 pw10 e4;replace rs:=rs.put k4 pw10 e4;replace k99:=k99.put pw10 (by omega);replace k6:=k6.put pw10 (by omega);replace k4:=pw10.av;refine dG 0 1 4 5 6 7 8 36 64 (Zt (Cd.ret (ab.ak (ab.bF (ab.ak ?_)))));refine ab.cz rfl rfl k4 Tryz.underlying105 rfl (m:=4) (by kernel_rfl) rfl (.inl rfl) ?_;rw[hstep3];obtain⟨hhi2,S',hrep',hb'⟩:=rs;exact⟨ae,_,rfl,⟨k99,pw.rd.below (ae.below (by omega) hle),pwz.bK,pwz.dU⟩,S',hrep',fun b h=>⟨by have:=(hb' b h).1;omega,by have:=(hb' b h).2.1;omega⟩⟩
 ·rw[if_neg h2] at hstep3
  refine Cd.skip (ab.aj ?_);exact ab.round (m,su op left y,(some ⟨g58,0,none⟩,2),q2) ⟨rfl,rfl,rfl,rfl,rfl,trivial⟩ ⟨⟨k99,pw.rd.below (ae.below (by omega) hle),pwz.bK,pwz.dU⟩,ae,k4,k6,kp,rs.up,by dsimp only;omega,hstep3⟩ (by dsimp only;omega)
theorem Ci (K:Ctx)(hK:K.Ok)(n:Nat):(∀m,m≤n→CJ K (bH K.ws m).S∧∀lvl,lvl≤5→yU K m lvl):=by
 induction n with
 |zero=>
  intro m hm;obtain rfl:m=0:=by omega
  exact⟨fun p d W _ h=>absurd rfl h,fun lvl _ p d W _ h=>absurd rfl h⟩
 |succ n ih=>
  intro m hm;rcases Nat.lt_or_ge m (n+1) with h|h
  ·exact ih m (by omega)
  obtain rfl:m=n+1:=by omega
  obtain⟨i1,i2⟩:=ih n (Nat.le_refl _)
  have hS:CJ K (bH K.ws (n+1)).S:=fun p d W hp hne=>by
   have e:(bH K.ws (n+1)).S p d=bC K.ws (bH K.ws n).S ((bH K.ws n).E 0) p d:=rfl;rw[e] at hne⊢;exact yx K hK _ _ i1 (fun p d W hp hne=>i2 0 (by omega) p d W hp hne) p d W hp hne
  refine⟨hS,fun lvl hl=> ?_⟩
  have key:∀j lvl,lvl+j=5→yU K (n+1) lvl:=by
   intro j
   induction j with
   |zero=>intro lvl h;obtain rfl:lvl=5:=(by omega);exact AB K hK n hS
   |succ j ihj=>intro lvl h;exact Bv K hK n lvl (by omega) (ihj (lvl+1) (by omega)) (fun m hm=>(ih m hm).2 (lvl+1) (by omega))
  exact key (5-lvl) lvl (by omega)
def qX (x:Nat × Nat × Nat):Value:= .func (.func x.1) #[] #[.pointer (some ⟨x.2.1,0,none⟩), .pointer (some ⟨x.2.2,0,none⟩)]
def CC (K:Ctx)(gt:Nat)(x:Nat × Nat × Nat)(W:World):Prop:=aK W x.2.1 227 #[.pointer (some ⟨gt,0,none⟩)]∧aK W x.2.2 189 #[.pointer (some ⟨K.g,0,none⟩)]
def ow (K:Ctx)(gt:Nat)(L:List (Nat × Nat × Nat))(W:World):Prop:=∀x∈L,CC K gt x W
theorem ow.step {K:Ctx}{gt:Nat}{L:List (Nat × Nat × Nat)}{W W':World}(h:ow K gt L W)(hb:Below W.heap.size W W'):ow K gt L W':=fun x hx=>⟨(h x hx).1.step hb,(h x hx).2.step hb⟩
theorem ow.app {K:Ctx}{gt B B' n size:Nat}{v:Value}{xs:List Value}{L:List (Nat × Nat × Nat)}{W W':World}(h:ow K gt L W)(o:Own W B 1 size v n xs)(ha:App W W' B' v):ow K gt L W':=fun x hx=>⟨(h x hx).1.app o ha,(h x hx).2.app o ha⟩
theorem ow.snoc {K:Ctx}{gt:Nat}{L:List (Nat × Nat × Nat)}{W:World}{x:Nat × Nat × Nat}(h:ow K gt L W)(hx:CC K gt x W):ow K gt (L++[x]) W:=fun y hy=>by
 rcases List.mem_append.1 hy with hy|hy
 ·exact h y hy
 ·obtain rfl:=List.mem_singleton.1 hy
  exact hx
theorem zp (K:Ctx)(gt:Nat)(w:World):Calls Tryz.prog 171 #[.pointer (some ⟨K.g,0,none⟩), .pointer (some ⟨gt,0,none⟩)] w fun e w'=>(∃a b,e= .returned (qX (212,a,b))∧CC K gt (212,a,b) w')∧Grow w w':=by
 have ae:=Below.refl w.heap.size w;refine Zs 6 Tryz.func171 ?_;refine ao ?_;refine Seq.box rfl rfl rfl rfl rfl ?_;intro g2 w1 n2;have e2:=Nat.le_trans ae.size n2.ge;replace ae:=ae.step n2.below;have k2:=n2.av;refine Seq.box rfl rfl rfl rfl rfl ?_;intro g3 w2 n3;have e3:=Nat.le_trans ae.size n3.ge;have l3:=Nat.lt_of_lt_of_le k2.lt n3.ge;replace ae:=ae.step n3.below;replace k2:=k2.step n3.below;have k3:=n3.av;refine Za ?_;refine aU 0 1 2 3 4 (aG ?_);refine Zv (aa.makeFunc (v:= .func (.func 212) #[] #[.pointer (some ⟨g3,0,none⟩), .pointer (some ⟨g2,0,none⟩)]) rfl (show iG _ _=some [] from rfl) (show iG _ _=some [.pointer (some ⟨g3,0,none⟩), .pointer (some ⟨g2,0,none⟩)] from rfl) rfl) ?_;refine Za ?_;refine aU 0 1 2 3 4 (Zt (Cd.ret ?_));refine ab.aE rfl rfl (.inl rfl) ?_;exact⟨⟨_,_,rfl,k3,k2⟩,ae⟩
theorem xO (K:Ctx)(gt:Nat)(w:World):Calls Tryz.prog 170 #[.pointer (some ⟨K.g,0,none⟩), .pointer (some ⟨gt,0,none⟩)] w fun e w'=>(∃a b,e= .returned (qX (211,a,b))∧CC K gt (211,a,b) w')∧Grow w w':=by
 have ae:=Below.refl w.heap.size w;refine Zs 6 Tryz.func170 ?_;refine ao ?_;refine Seq.box rfl rfl rfl rfl rfl ?_;intro g2 w1 n2;have e2:=Nat.le_trans ae.size n2.ge;replace ae:=ae.step n2.below;have k2:=n2.av;refine Seq.box rfl rfl rfl rfl rfl ?_;intro g3 w2 n3;have e3:=Nat.le_trans ae.size n3.ge;have l3:=Nat.lt_of_lt_of_le k2.lt n3.ge;replace ae:=ae.step n3.below;replace k2:=k2.step n3.below;have k3:=n3.av;refine Za ?_;refine aU 0 1 2 3 4 (aG ?_);refine Zv (aa.makeFunc (v:= .func (.func 211) #[] #[.pointer (some ⟨g3,0,none⟩), .pointer (some ⟨g2,0,none⟩)]) rfl (show iG _ _=some [] from rfl) (show iG _ _=some [.pointer (some ⟨g3,0,none⟩), .pointer (some ⟨g2,0,none⟩)] from rfl) rfl) ?_;refine Za ?_;refine aU 0 1 2 3 4 (Zt (Cd.ret ?_));refine ab.aE rfl rfl (.inl rfl) ?_;exact⟨⟨_,_,rfl,k3,k2⟩,ae⟩
theorem Dk:∀args w,(callFunc 212 args).run Tryz.prog w= .ok (.enter 212 args) w:=fun args w=>bG Tryz.func212 (by kernel_rfl) rfl args w
theorem Cx:∀args w,(callFunc 211 args).run Tryz.prog w= .ok (.enter 211 args) w:=fun args w=>bG Tryz.func211 (by kernel_rfl) rfl args w
theorem Av:∀args w,(callFunc 167 args).run Tryz.prog w= .ok (.enter 167 args) w:=fun args w=>bG Tryz.func167 (by kernel_rfl) rfl args w
theorem ye (K:Ctx)(hK:K.Ok)(h0 gt b1 d p:Nat)(op:Int)(nm:List Nat)(vE vT:Value)(w:World)(pw:PW K w p d false)(hg0:K.g<h0)(hgt:h0≤gt)(hh:h0≤w.heap.size)(kt:aK w gt 71 #[.int .i64 op, .string (strOf nm),vE,vT]) (kb1:aK w b1 189 #[.pointer (some ⟨K.g,0,none⟩)]):
  Calls Tryz.prog 167 #[.pointer (some ⟨b1,0,none⟩), .pointer (some ⟨gt,0,none⟩)] w (tX K h0 w d (dW K.ws p) fun x _ W'=>Kp w W'∧aK W' gt 71 #[.int .i64 op, .string (strOf x),vE,vT]):=by
 have hle:=hK.le;have ae:=Fz.refl w.heap.size K.g w;have k1:=kb1;have hcl:=tt K hK p d w pw;have hgl:=kt.lt;have hpl:=pw.av.lt;refine Zs 5 Tryz.func167 ?_;refine Zr ?_;refine Zv (aa.ag rfl rfl Tryz.underlying189 rfl k1 rfl) ?_;rcases Rs.dy (sO K.ws p) with ⟨q,ov,hr⟩|⟨x,q,hr⟩
 ·rw[hr] at hcl
  refine Seq.cS (Ze Tryz.func168) rfl hcl ?_;rintro e w6 ⟨hf,rfl,d6,hp6⟩;refine⟨_,rfl,fun a ha=>⟨ha.defers,?_⟩⟩;rw[hr];exact⟨hf.less hh,rfl,d6,hp6⟩
 rw[hr] at hcl⊢;refine Zc (Ze Tryz.func168) (hcl) ?_;rintro e wq ⟨hf,v6,rfl,pwq,rfl⟩;refine⟨_,rfl,?_⟩;clear ae k1;have ae:Fz h0 K.g w wq:=hf.less hh;have kp:=(Kp.refl w).fz pw.av hf;have k2:=kt.fz hf (by omega);have k99:=pwq.av;have e2:h0≤gt:=hgt;have loc:Fz h0 K.g wq wq:=Fz.refl _ _ _;refine Zf 1 Tryz.underlying71 ?_;refine Zq k2 ?_;intro w1 pw1;replace ae:=ae.put k2 pw1 e2;replace kp:=kp.put k2 pw1 e2;replace k99:=k99.put pw1 (by omega);replace loc:=loc.put k2 pw1 e2;replace k2:=pw1.av;refine eh 0 1 ?_;refine ab.fP rfl (.inr rfl) ?_;exact⟨ae,_,rfl,⟨k99,pwq.rd.below (loc.below (by omega) hle),pwq.bK,pwq.dU⟩,kp,k2⟩
def D2 (K:Ctx)(T0:Nat→Nat→Rs Tm):Prop:=∀p d W,PW K W p d false→T0 p d≠ .out→Calls Tryz.prog 128 #[.pointer (some ⟨K.g,0,none⟩)] W (PR K W d (T0 p d) (zl W))
theorem mI (w:World):(Instr.build 71 #[(0, .int .i64 1)]).run Tryz.prog w= .ok (.agg #[.int .i64 1, .string (strOf []), .slice none 0 0, .slice none 0 0]) w:=by kernel_rfl
theorem tX.DZ {α:Type}{K:Ctx}{h d:Nat}{w w':World}{r:Rs α}{ok1 ok2:α→Value→World→Prop}{e:Ending}(hr:tX K h w d r ok1 e w')(hm:∀a p v w',r= .ok a p→ok1 a v w'→ok2 a v w'):tX K h w d r ok2 e w':=by
 refine⟨hr.1,?_⟩
 cases r with
 |out=>exact hr.2
 |bad p o=>exact hr.2
 |ok a p=>obtain⟨v,h1,h2,h3⟩:=hr.2;exact⟨v,h1,h2,hm _ _ _ _ rfl h3⟩
theorem AW {K:Ctx}(hK:K.Ok){p q:Nat}{x:List Nat}(h:dW K.ws p= .ok x q):(∀c∈x,c<256)∧x.length≤4000:=by
 obtain⟨a1,a2,a3,a4,a5⟩:=hK.at_ p;obtain⟨b1,b2,b3⟩:=K.ju p;unfold dW at h;split at h
 ·injection h with h
  rw[←h,←b2];exact⟨a3,a4⟩
 ·cases h
theorem tX.map {α β:Type}{K:Ctx}{h d:Nat}{w w':World}{r:Rs α}{f:α→β}{ok1:α→Value→World→Prop}{ok2:β→Value→World→Prop}{e:Ending}(hr:tX K h w d r ok1 e w')(hm:∀a v w',ok1 a v w'→ok2 (f a) v w'):tX K h w d (r.map f) ok2 e w':=by
 refine⟨hr.1,?_⟩
 cases r with
 |out=>exact hr.2
 |bad p o=>exact hr.2
 |ok a p=>obtain⟨v,h1,h2,h3⟩:=hr.2;exact⟨v,h1,h2,hm _ _ _ h3⟩
theorem Be (K:Ctx)(hK:K.Ok)(E0:Nat→Nat→Rs Ex)(T0:Nat→Nat→Rs Tm)(hE:BN K E0)(hT:D2 K T0)(p d:Nat)(w:World)(pw:PW K w p d false)(hne:dR K.ws E0 T0 p d≠ .out):
  Calls Tryz.prog 128 #[.pointer (some ⟨K.g,0,none⟩)] w (PR K w d (dR K.ws E0 T0 p d) (zl w)):=by
 have ae:=Fz.refl w.heap.size K.g w;have k99:=pw.av;have e99:K.g=K.g:=rfl;have hlt:=pw.av.lt;have hlen:=hK.len;have hle:=hK.le;have hpl:=pw.bK;obtain⟨a1,a2,a3,a4,a5⟩:=hK.at_ p;obtain⟨b1,b2,b3⟩:=K.ju p;have hw:=fun W h=>gA K hK p d false W h;unfold DQ at hw;obtain⟨op,hop⟩:∃op,op=(cC (K.at_ p).text).1:=⟨_,rfl⟩;obtain⟨ne,hnE⟩:∃ne,ne=(cC (K.at_ p).text).2.1:=⟨_,rfl⟩;obtain⟨ns,hnS⟩:∃ns,ns=(cC (K.at_ p).text).2.2:=⟨_,rfl⟩
 have hq:dR K.ws E0 T0 p d=if(K.at_ p).kind≠3 then .bad p false else if(K.at_ p).text=xm then .ok (.mk 1 [] [] []) (p+1)
   else if(K.at_ p).text=uG then(aW K.ws [fun p _=>dW K.ws p] (p+1) d).bind fun xs p=> .ok (.mk 2 (xs.getD 0 []) [] []) p
   else if op=0 then .bad p false else(aW K.ws (eu E0 T0 ne ns) (p+1) d).bind fun xs p=> .ok (.mk op [] (cR xs) (bZ xs)) p:=by
  rw[b1,hop,hnE,hnS,b2];unfold dR;rfl
 have hbd:ne≤1∧ns≤2∧bt op:=by
  rw[hop,hnE,hnS]
  have:∀t,(cC t).2.1≤1∧(cC t).2.2≤2∧bt (cC t).1:=fun t=>by
   unfold cC
   repeat' split
   all_goals exact⟨by decide,by decide,by unfold bt;decide⟩
  exact this _
 have hp:(K.at_ p).kind≠ -1→p+1≤K.ws.length:=fun hk=>by
  rcases Nat.lt_or_ge p K.ws.length with h|h
  ·exact h
  ·exact absurd (by unfold Ctx.at_;rw[List.getD_eq_getElem?_getD,List.getElem?_eq_none h];rfl) hk
 have hterms:=fun W=>yi (K.at_ p).text W a3;rw[←hop,←hnE,←hnS] at hterms;refine Zs 85 Tryz.func128 ?_;refine ao ?_;refine Seq.box rfl rfl rfl rfl rfl ?_;intro g1 w1 n1;have e1:=Nat.le_trans ae.size n1.ge;have l1:=Nat.lt_of_lt_of_le k99.lt n1.ge;replace ae:=ae.step n1.below;replace k99:=k99.step n1.below;have k1:=n1.av;refine Zl aI ?_;intro g2 w2 n2;have e2:=Nat.le_trans ae.size n2.ge;have l2:=Nat.lt_of_lt_of_le k1.lt n2.ge;replace ae:=ae.step n2.below;replace k99:=k99.step n2.below;replace k1:=k1.step n2.below;have k2:=n2.av;refine bD 0 1 2 (aG ?_);refine Zv (aa.ag rfl rfl Tryz.underlying189 rfl k1 rfl) ?_;refine Zc (Ze Tryz.func164) (hw _ (pw.to hle ae k99)) ?_;rintro e w5 ⟨rfl,hb5⟩;refine⟨_,rfl,?_⟩;replace ae:=ae.step hb5;replace k99:=k99.step hb5;replace k1:=k1.step hb5;replace k2:=k2.step hb5;refine Zl bJ ?_;intro g3 w3 n3;have e3:=Nat.le_trans ae.size n3.ge;have l3:=Nat.lt_of_lt_of_le k2.lt n3.ge;replace ae:=ae.step n3.below;replace k99:=k99.step n3.below;replace k1:=k1.step n3.below;replace k2:=k2.step n3.below;have k3:=n3.av;refine Zo 4 k3 ?_;intro w4 pw4;replace ae:=ae.put k3 pw4 e3;replace k99:=k99.put pw4 (by omega);replace k1:=k1.put pw4 (by omega);replace k2:=k2.put pw4 (by omega);replace k3:=pw4.av;refine aV 0 1 2 3 (aJ (ao ?_));refine Zf 0 Tryz.underlying221 ?_;refine Zv (aa.ag rfl rfl Tryz.underlying3 rfl k3 rfl) ?_;refine Zv (aa.bN rfl rfl rfl) ?_;refine aU 0 1 2 3 13 (Zt ?_);refine Cd.au rfl (fun c1=> ?_) (fun c1=> ?_)
 ·rw[if_pos c1] at hq
  refine Zr ?_;refine Zv (aa.ag rfl rfl Tryz.underlying189 rfl k1 rfl) ?_;refine Seq.cS (Ze Tryz.func165) rfl (jc K.g _) ?_;rintro e w6 ⟨rfl,hb6⟩;refine⟨_,rfl,fun a ha=>⟨ha.defers,?_⟩⟩;rw[hq];exact⟨ae.step hb6,rfl,d,pw.to hle (ae.step hb6) (k99.step hb6)⟩
 rw[if_neg c1] at hq;have hp1:=hp (by intro h;exact c1 (by rw[h];decide));refine Cd.skip (aG ?_);refine Zl aI ?_;intro g4 w5 n4;have e4:=Nat.le_trans ae.size n4.ge;have l4:=Nat.lt_of_lt_of_le k3.lt n4.ge;replace ae:=ae.step n4.below;replace k99:=k99.step n4.below;replace k1:=k1.step n4.below;replace k2:=k2.step n4.below;replace k3:=k3.step n4.below;have k4:=n4.av;refine bj 0 1 2 3 4 13 (aJ (ao ?_));refine Zf 1 Tryz.underlying221 ?_;refine Zv (aa.ag rfl rfl Tryz.underlying9 rfl k3 rfl) ?_;refine bb 0 1 2 3 4 13 17 (Zt (Cd.block (ao ?_)));refine Zv (aa.cF (b:=xm) rfl rfl rfl a3 (by decide)) ?_;refine Za ?_;refine cI 0 1 2 3 4 13 17 18 (Zt ?_);refine Cd.au rfl (fun c2=> ?_) (fun c2=> ?_)
 ·rw[if_pos c2] at hq
  refine ao ?_;refine Zv (aa.ag rfl rfl Tryz.underlying189 rfl k1 rfl) ?_;refine Zv (aa.nilCheck rfl rfl) ?_;refine Zf 1 Tryz.underlying219 ?_;refine Zv (aa.ag rfl rfl Tryz.underlying3 rfl k99 rfl) ?_;refine cH ?_;refine Zv (aa.nilCheck rfl rfl) ?_;refine Zf 1 Tryz.underlying219 ?_;refine Zq k99 ?_;intro w6 pw6;replace ae:=ae.put k99 pw6 e99;replace k1:=k1.put pw6 (by omega);replace k2:=k2.put pw6 (by omega);replace k3:=k3.put pw6 (by omega);replace k4:=k4.put pw6 (by omega);replace k99:=pw6.av;refine cI 0 1 2 3 4 13 17 18 (aG ?_);refine Zv (aa.build rfl rfl (mI _)) ?_;refine Zo 4 k2 ?_;intro w7 pw7;replace ae:=ae.put k2 pw7 e2;replace k99:=k99.put pw7 (by omega);replace k1:=k1.put pw7 (by omega);replace k3:=k3.put pw7 (by omega);replace k4:=k4.put pw7 (by omega);replace k2:=pw7.av;refine cI 0 1 2 3 4 13 17 18 (Zt (Cd.ret (ab.ak (ab.af ?_))));refine ab.cz rfl rfl k2 Tryz.underlying71 rfl (m:=4) (by kernel_rfl) rfl (.inl rfl) ?_;rw[hq];exact⟨ae,_,rfl,pw.next hle hp1 ae k99,fun _=>False,dm.mk (es:=[]) (ts:=[]) (vs:=[]) (us:=[]) rfl rfl (by simp) (by simp) (by unfold bt;omega) (by simp) (by simp) (fun i e v h=>by simp at h) (fun i e v h=>by simp at h) (fun h=>absurd rfl h) (fun h=>absurd rfl h),fun b hb=>hb.elim⟩
 rw[if_neg c2] at hq;refine ao ?_;refine Zv (aa.cF (b:=uG) rfl rfl rfl a3 (by decide)) ?_;refine Za ?_;refine dG 0 1 2 3 4 13 17 18 28 (Zt ?_);refine Cd.au rfl (fun c3=> ?_) (fun c3=> ?_)
 ·rw[if_pos c3] at hq
  refine ao ?_;refine Zv (aa.ag rfl rfl Tryz.underlying189 rfl k1 rfl) ?_;refine Zv (aa.nilCheck rfl rfl) ?_;refine Zf 1 Tryz.underlying219 ?_;refine Zv (aa.ag rfl rfl Tryz.underlying3 rfl k99 rfl) ?_;refine cH ?_;refine Zv (aa.nilCheck rfl rfl) ?_;refine Zf 1 Tryz.underlying219 ?_;refine Zq k99 ?_;intro w6 pw6;replace ae:=ae.put k99 pw6 e99;replace k1:=k1.put pw6 (by omega);replace k2:=k2.put pw6 (by omega);replace k3:=k3.put pw6 (by omega);replace k4:=k4.put pw6 (by omega);replace k99:=pw6.av;refine dG 0 1 2 3 4 13 17 18 28 (aG ?_);refine Zf 0 Tryz.underlying71 ?_;refine Zq k4 ?_;intro w7 pw7;replace ae:=ae.put k4 pw7 e4;replace k99:=k99.put pw7 (by omega);replace k1:=k1.put pw7 (by omega);replace k2:=k2.put pw7 (by omega);replace k3:=k3.put pw7 (by omega);replace k4:=pw7.av;refine dG 0 1 2 3 4 13 17 18 28 (aG ?_);refine Zv (aa.ag rfl rfl Tryz.underlying189 rfl k1 rfl) ?_;refine Zv (aa.makeFunc (v:= .func (.func 167) #[] #[.pointer (some ⟨g1,0,none⟩), .pointer (some ⟨g4,0,none⟩)]) rfl (show iG _ _=some [] from rfl) (show iG _ _=some [.pointer (some ⟨g1,0,none⟩), .pointer (some ⟨g4,0,none⟩)] from rfl) rfl) ?_;refine Seq.slice (vs:=[_]) (s:=1) rfl rfl rfl Tryz.underlying225 (by kernel_rfl) (er) (by omega) (by omega) ⟨rfl,trivial⟩ rfl rfl rfl ?_;intro g40 w8 n40;have e40:=Nat.le_trans ae.size n40.ge;have l40:=Nat.lt_of_lt_of_le k4.lt n40.ge;replace ae:=ae.step n40.below;replace k99:=k99.step n40.below;replace k1:=k1.step n40.below;replace k2:=k2.step n40.below;replace k3:=k3.step n40.below;replace k4:=k4.step n40.below;have k40:=n40.av;have pw8:PW K w8 (p+1) d false:=⟨by rw[Int.natCast_add];exact k99,pw.rd.below (ae.below (by omega) hle),hp1,pw.dU⟩;obtain⟨R,hR⟩:∃R,R=aW K.ws [fun p _=>dW K.ws p] (p+1) d:=⟨_,rfl⟩;rw[←hR] at hq;have hneR:R≠ .out:=Rs.fa (by rw[←hq];exact hne);have hgg4:K.g<g4:=by omega
  have hwi:=jC K hK g4 [fun p _=>dW K.ws p] [(167,[Value.pointer (some ⟨g1,0,none⟩),Value.pointer (some ⟨g4,0,none⟩)])] (some ⟨g40,0,none⟩) 1
   (fun xs W=>Kp w8 W∧aK W g4 71 #[.int .i64 2, .string (strOf (xs.getD 0 [])), .slice none 0 0, .slice none 0 0]∧∀x∈xs,(∀c∈x,c<256)∧x.length≤4000) (p+1) d w8 pw8 (Nat.le_of_lt k4.lt) rfl (by simp)
   ⟨Kp.refl w8,k4,by simp⟩
   (fun xs W W' p d hM hp hf=>⟨hM.1.fz hp.av hf,hM.2.1.fz hf (by omega),hM.2.2⟩)
   (fun xs W j f cp hM hj=>by
    match j,hj with
    |0,hj=>
     simp at hj;obtain⟨e1,e2⟩:=hj;subst e1 e2;refine⟨_,rfl,?_⟩;have hb:=(hM.1.av k40).cell 0;exact hb
    |j+1,hj=>simp at hj)
   (fun j f cp hj=>by
    match j,hj with
    |0,hj=>
     simp at hj;obtain⟨e1,e2⟩:=hj;subst e1;exact Av
    |j+1,hj=>simp at hj)
   (fun j f cp one hj ho xs W p' hxl hpw hW hM hne1=>by
    match j,hj,ho,hxl with
    |0,hj,ho,hxl=>
     simp at hj ho;obtain⟨e1,e2⟩:=hj;subst e1 e2 ho;have hx0:xs=[]:=List.eq_nil_of_length_eq_zero hxl;subst hx0;exact(ye K hK g4 g4 g1 (d+1) p' 2 _ _ _ W hpw hgg4 (Nat.le_refl _) hW hM.2.1 (hM.1.av k1)).mono fun e W' hq=>hq.DZ fun a p v W' hr h=>⟨hM.1.trans h.1,h.2,fun x hx=>by simp at hx;subst hx;exact AW hK hr⟩
    |j+1,hj,_,_=>simp at hj)
   (by rw[←hR];exact hneR)
  rw[←hR] at hwi;rcases Rs.dy hneR with ⟨q,ov,hr⟩|⟨xs,q,hr⟩
  ·rw[hr] at hwi hq
   refine Seq.cS (Ze Tryz.func166) rfl hwi ?_;rintro e w9 ⟨hf,rfl,d6,hp6⟩;refine⟨_,rfl,fun a ha=>⟨ha.defers,?_⟩⟩;rw[hq];exact⟨ae.trans (hf.less (by omega)),rfl,d6,hp6⟩
  have hxl:=et (hR.symm.trans hr)
  obtain⟨x,rfl⟩:∃x,xs=[x]:=by
   match xs,hxl with
   | [x],_=>exact⟨x,rfl⟩
  rw[hr] at hwi hq;replace hq:dR K.ws E0 T0 p d= .ok (.mk 2 x [] []) q:=hq;refine Zc (Ze Tryz.func166) (hwi) ?_;rintro e wq ⟨hf,v6,rfl,pwq,kpq,k4q,hxb⟩;have hxb:=hxb x (by simp);refine⟨_,rfl,?_⟩
  have k2q:aK wq g2 71 #[.int .i64 0, .string {data:= #[]}, .slice none 0 0, .slice none 0 0]:=by
   have h2:aK w8 g2 71 #[.int .i64 0, .string {data:= #[]}, .slice none 0 0, .slice none 0 0]:=k2;have h1:=hf.block g2 (by omega) (by omega);unfold aK at h2⊢;rw[h1];exact h2
  have belq:Fz w.heap.size K.g w wq:=ae.trans (hf.less (by omega));clear ae k1 k2 k3 k4 k40 k99;have ae:=belq;have k2:=k2q;have k4:aK wq g4 71 #[.int .i64 2, .string (strOf x), .slice none 0 0, .slice none 0 0]:=k4q;have hlt2:=k2.lt;refine dG 0 1 2 3 4 13 17 18 28 (aG ?_);refine Zv (aa.aQ rfl rfl Tryz.underlying71 rfl k4 (m:=4) (by kernel_rfl) rfl) ?_;refine Zo 4 k2 ?_;intro w9 pw9;replace ae:=ae.put k2 pw9 e2;replace k4:=k4.put pw9 (by omega);replace k2:=pw9.av;refine dG 0 1 2 3 4 13 17 18 28 (Zt (Cd.ret (ab.ak (ab.af ?_))));refine ab.cz rfl rfl k2 Tryz.underlying71 rfl (m:=4) (by kernel_rfl) rfl (.inl rfl) ?_;rw[hq];exact⟨ae,_,rfl,⟨pwq.av.put pw9 (by omega),pw.rd.below (ae.below (by omega) hle),pwq.bK,pwq.dU⟩,fun _=>False,dm.mk (es:=[]) (ts:=[]) (vs:=[]) (us:=[]) rfl rfl (by simp) (by simp) (by unfold bt;omega) hxb.1 (by have:=hxb.2;omega) (fun i e v h=>by simp at h) (fun i e v h=>by simp at h) (fun h=>absurd rfl h) (fun h=>absurd rfl h),fun b hb=>hb.elim⟩
 rw[if_neg c3] at hq;refine Cd.skip (ab.aj (aG ?_));refine Zf 1 Tryz.underlying221 ?_;refine Zv (aa.ag rfl rfl Tryz.underlying9 rfl k3 rfl) ?_;refine Zc (Ze Tryz.func169) (hterms _) ?_;rintro e w6 ⟨rfl,hb6⟩;refine⟨_,rfl,?_⟩;replace ae:=ae.step hb6;replace k99:=k99.step hb6;replace k1:=k1.step hb6;replace k2:=k2.step hb6;replace k3:=k3.step hb6;replace k4:=k4.step hb6;refine Zm ?_;refine Zv (aa.extract rfl rfl rfl) ?_;refine Zv (aa.extract rfl rfl rfl) ?_;refine Zv (aa.extract rfl rfl rfl) ?_;refine Za ?_;refine Za ?_;refine Za ?_;refine fG 0 1 2 3 4 5 6 7 13 17 18 28 (aJ (ao ?_));refine Zm ?_;refine Zv (aa.aB rfl rfl rfl) ?_;refine gF 0 1 2 3 4 5 6 7 13 17 18 28 51 (Zt ?_);refine Cd.au rfl (fun c4=> ?_) (fun c4=> ?_)
 ·rw[if_pos c4] at hq
  refine Zr ?_;refine Zv (aa.ag rfl rfl Tryz.underlying189 rfl k1 rfl) ?_;refine Seq.cS (Ze Tryz.func165) rfl (jc K.g _) ?_;rintro e w7 ⟨rfl,hb7⟩;refine⟨_,rfl,fun a ha=>⟨ha.defers,?_⟩⟩;rw[hq];exact⟨ae.step hb7,rfl,d,pw.to hle (ae.step hb7) (k99.step hb7)⟩
 rw[if_neg c4] at hq;refine Cd.skip (aG ?_);refine Zv (aa.ag rfl rfl Tryz.underlying189 rfl k1 rfl) ?_;refine Zv (aa.nilCheck rfl rfl) ?_;refine Zf 1 Tryz.underlying219 ?_;refine Zv (aa.ag rfl rfl Tryz.underlying3 rfl k99 rfl) ?_;refine cH ?_;refine Zv (aa.nilCheck rfl rfl) ?_;refine Zf 1 Tryz.underlying219 ?_;refine Zq k99 ?_;intro w6 pw6;replace ae:=ae.put k99 pw6 e99;replace k1:=k1.put pw6 (by omega);replace k2:=k2.put pw6 (by omega);replace k3:=k3.put pw6 (by omega);replace k4:=k4.put pw6 (by omega);replace k99:=pw6.av;refine gF 0 1 2 3 4 5 6 7 13 17 18 28 51 (aG ?_);refine Zm ?_;refine Zf 0 Tryz.underlying71 ?_;refine Zq k4 ?_;intro w7 pw7;replace ae:=ae.put k4 pw7 e4;replace k99:=k99.put pw7 (by omega);replace k1:=k1.put pw7 (by omega);replace k2:=k2.put pw7 (by omega);replace k3:=k3.put pw7 (by omega);replace k4:=pw7.av;refine gF 0 1 2 3 4 5 6 7 13 17 18 28 51 (aG ?_);refine Za ?_;refine jk 0 1 2 3 4 5 6 7 8 13 17 18 28 51 (aJ (ao ?_));refine Zm ?_;refine Zm ?_;refine mN 0 1 2 3 4 5 6 7 8 13 17 18 28 51 63 64 (Zt (Cd.block ?_));have pwl:PW K w7 (p+1) d false:=⟨by rw[Int.natCast_add];exact k99,pw.rd.below (ae.below (by omega) hle),hp1,pw.dU⟩;have k1o:=k1;have k2o:=k2;have k4o:=k4;have bel0:=ae;have hs0:=ae.size;have hk4l:=k4.lt;replace ae:=Below.refl w7.heap.size w7;have own:=Own.nil w7 w7.heap.size 1 1;have bx:ow K g4 [] w7:=fun x hx=>by simp at hx
 refine Cd.loop (σ:=Nat × Value × List (Nat × Nat × Nat)) (fun s=>[(1, .pointer (some ⟨g1,0,none⟩)),(2, .pointer (some ⟨g2,0,none⟩)),(4, .pointer (some ⟨g4,0,none⟩)),(7, .int .i64 (ns:Int)),(8,s.2.1),(63, .int .i64 (ne:Int)),(64, .int .i64 (s.1:Int))])
  (fun s wr=>s.1≤ne∧Below w7.heap.size w7 wr∧s.2.2.map (·.1)=List.replicate s.1 211∧ow K g4 s.2.2 wr∧Own wr w7.heap.size 1 1 s.2.1 (s.1) (s.2.2.map qX)) (fun s=>ne-s.1) (0, .slice none 0 0,[]) ⟨Nat.zero_le _,ae,rfl,bx,own⟩ ⟨rfl,rfl,rfl,rfl,rfl,rfl,rfl,trivial⟩ ?_
 clear k1 k2 k3 k4 k99;clear ae own bx;rintro⟨i,v,L⟩ wr ⟨hi,ae,hL,bx,own⟩;dsimp only at hi hL bx own⊢;have k1:=k1o.step ae;refine ao ?_;refine Zv (aa.lss rfl rfl rfl) ?_;refine cI 1 2 4 7 8 63 64 65 (aJ ?_);refine Cd.au rfl (fun hc=> ?_) (fun hc=> ?_)
 ·skip
  refine Cd.skip (aJ (Cd.block (Zr ?_)));refine Zm ?_;refine Zv (aa.ag rfl rfl Tryz.underlying189 rfl k1 rfl) ?_;refine Zc (Ze Tryz.func170) (xO K g4 _) ?_;rintro e w8 ⟨⟨a,b,rfl,hbx⟩,hb8⟩;refine⟨_,rfl,?_⟩;replace ae:=ae.step hb8;replace own:=own.step hb8;replace bx:=bx.step hb8;replace k1:=k1.step hb8;replace bx:=bx.snoc hbx;refine Seq.slice (vs:=[_]) (s:=1) rfl rfl rfl Tryz.underlying225 (by kernel_rfl) (er) (by omega) (by omega) ⟨rfl,trivial⟩ rfl rfl rfl ?_;intro g69 w8 n69;have e69:=Nat.le_trans ae.size n69.ge;have l69:=Nat.lt_of_lt_of_le k1.lt n69.ge;replace ae:=ae.step n69.below;replace own:=own.step n69.below;replace bx:=bx.step n69.below;replace k1:=k1.step n69.below;have k69:=n69.av;refine Seq.append rfl rfl rfl Tryz.underlying225 (by kernel_rfl) er rfl (by decide) (b:=8) (by kernel_rfl) own (Reads.av k69 1 rfl) (by intro x hx;simp[aP,Value.cells,qX] at hx;rw[hx];rfl) ae.size (by simp only[maxLen];omega) (by omega) rfl rfl rfl ?_;intro v2 wa own2 ha;replace bx:=bx.app own ha;replace ae:=ae.trans ha.below;clear own k1 k69;refine Za ?_;refine cI 1 2 4 7 8 63 64 65 (ab.aj (ei ?_));refine cH ?_;refine Zm ?_;refine cI 1 2 4 7 8 63 64 65 ?_;refine ab.round (i+1,v2,L++[(211,a,b)]) ⟨rfl,rfl,rfl,rfl,rfl,rfl,rfl,trivial⟩ ⟨by dsimp only;omega,ae,?_,bx,?_⟩ (by dsimp only;omega)
  ·dsimp only
   rw[List.map_append,hL,List.replicate_succ'];rfl
  ·dsimp only
   rw[List.map_append];exact own2
 obtain rfl:i=ne:=by omega
 refine Cd.exit (ab.aD (ab.aA (ab.az (aJ (ao ?_)))));refine Zm ?_;refine Zm ?_;refine dg 1 2 4 7 8 63 64 65 72 73 (Zt (Cd.block ?_))
 refine Cd.loop (σ:=Nat × Value × List (Nat × Nat × Nat)) (fun s=>[(1, .pointer (some ⟨g1,0,none⟩)),(2, .pointer (some ⟨g2,0,none⟩)),(4, .pointer (some ⟨g4,0,none⟩)),(7, .int .i64 (ns:Int)),(8,s.2.1),(72, .int .i64 (ns:Int)),(73, .int .i64 (s.1:Int))])
  (fun s wr=>s.1≤ns∧Below w7.heap.size w7 wr∧s.2.2.map (·.1)=List.replicate i 211++List.replicate s.1 212∧ow K g4 s.2.2 wr∧Own wr w7.heap.size 1 1 s.2.1 (i+s.1) (s.2.2.map qX)) (fun s=>ns-s.1) (0,v,L) ⟨Nat.zero_le _,ae,by simpa using hL,bx,own⟩ ⟨rfl,rfl,rfl,rfl,rfl,rfl,rfl,trivial⟩ ?_
 clear k1;clear ae own bx;rintro⟨j,v,L⟩ wr ⟨hj,ae,hL,bx,own⟩;dsimp only at hj hL bx own⊢;have k1:=k1o.step ae;refine ao ?_;refine Zv (aa.lss rfl rfl rfl) ?_;refine cI 1 2 4 7 8 72 73 74 (aJ ?_);refine Cd.au rfl (fun hc=> ?_) (fun hc=> ?_)
 ·skip
  refine Cd.skip (aJ (Cd.block (Zr ?_)));refine Zm ?_;refine Zv (aa.ag rfl rfl Tryz.underlying189 rfl k1 rfl) ?_;refine Zc (Ze Tryz.func171) (zp K g4 _) ?_;rintro e w8 ⟨⟨a,b,rfl,hbx⟩,hb8⟩;refine⟨_,rfl,?_⟩;replace ae:=ae.step hb8;replace own:=own.step hb8;replace bx:=bx.step hb8;replace k1:=k1.step hb8;replace bx:=bx.snoc hbx;refine Seq.slice (vs:=[_]) (s:=1) rfl rfl rfl Tryz.underlying225 (by kernel_rfl) (er) (by omega) (by omega) ⟨rfl,trivial⟩ rfl rfl rfl ?_;intro g78 w8 n78;have e78:=Nat.le_trans ae.size n78.ge;have l78:=Nat.lt_of_lt_of_le k1.lt n78.ge;replace ae:=ae.step n78.below;replace own:=own.step n78.below;replace bx:=bx.step n78.below;replace k1:=k1.step n78.below;have k78:=n78.av;refine Seq.append rfl rfl rfl Tryz.underlying225 (by kernel_rfl) er rfl (by decide) (b:=8) (by kernel_rfl) own (Reads.av k78 1 rfl) (by intro x hx;simp[aP,Value.cells,qX] at hx;rw[hx];rfl) ae.size (by simp only[maxLen];omega) (by omega) rfl rfl rfl ?_;intro v2 wa own2 ha;replace bx:=bx.app own ha;replace ae:=ae.trans ha.below;clear own k1 k78;refine Za ?_;refine cI 1 2 4 7 8 72 73 74 (ab.aj (ei ?_));refine cH ?_;refine Zm ?_;refine cI 1 2 4 7 8 72 73 74 ?_;refine ab.round (j+1,v2,L++[(212,a,b)]) ⟨rfl,rfl,rfl,rfl,rfl,rfl,rfl,trivial⟩ ⟨by dsimp only;omega,ae,?_,bx,?_⟩ (by dsimp only;omega)
  ·dsimp only
   rw[List.map_append,hL,List.replicate_succ',List.append_assoc];rfl
  ·dsimp only
   rw[List.map_append];exact own2
 obtain rfl:j=ns:=by omega
 refine Cd.exit (ab.aD (ab.aA (ab.az (aG ?_))));refine Zv (aa.ag rfl rfl Tryz.underlying189 rfl k1 rfl) ?_;refine Zm ?_;have hsr:=ae.size;have pw9:=pwl.step hle ae;have k4:=k4o.step ae;have k2:=k2o.step ae;have hgg4:K.g<g4:=by omega
 obtain⟨AP,cP,rfl,-⟩:=own.reads;obtain⟨R,hR⟩:∃R,R=aW K.ws (eu E0 T0 i j) (p+1) d:=⟨_,rfl⟩;rw[←hR] at hq;have hneR:R≠ .out:=Rs.fa (by rw[←hq];exact hne);obtain⟨h1i,h2j,hop64⟩:=hbd
 have hLl:L.length=i+j:=by
  have:=congrArg List.length hL
  simpa using this
 have hol:(eu E0 T0 i j).length=i+j:=by unfold eu;simp
 have hexl:∀xs:List Part,(cR xs).length≤xs.length∧(bZ xs).length≤xs.length:=fun xs=>⟨List.length_filterMap_le _ _,List.length_filterMap_le _ _⟩;have hfl:(L.map fun x=>(x.1,[Value.pointer (some ⟨x.2.1,0,none⟩),Value.pointer (some ⟨x.2.2,0,none⟩)])).length=i+j:=by rw[List.length_map,hLl]
 have hget:∀ {q f:Nat} {cp:List Value},(L.map fun x=>(x.1,[Value.pointer (some ⟨x.2.1,0,none⟩),Value.pointer (some ⟨x.2.2,0,none⟩)]))[q]? =some (f,cp)→∃x,L[q]? =some x∧x∈L∧f=x.1∧cp=[Value.pointer (some ⟨x.2.1,0,none⟩),Value.pointer (some ⟨x.2.2,0,none⟩)]:=fun {q f cp} h=>by
  rw[List.getElem?_map] at h
  cases hx:L[q]? with
  |none=>rw[hx] at h;cases h
  |some x=>
   rw[hx] at h;injection h with h
   injection h with e1 e2
   exact⟨x,rfl,List.mem_of_getElem? hx,e1.symm,e2.symm⟩
 have hfid:∀ {q:Nat} {x:Nat × Nat × Nat},L[q]? =some x→(q<i∧x.1=211)∨(i≤q∧x.1=212):=fun {q x} hx=>by
  have h1:(L.map (·.1))[q]? =some x.1:=by rw[List.getElem?_map,hx];rfl
  rw[hL] at h1;rcases Nat.lt_or_ge q i with hqi|hqi
  ·rw[List.getElem?_append_left (by simpa using hqi),List.getElem?_replicate,if_pos hqi] at h1
   injection h1 with h1
   exact .inl ⟨hqi,h1.symm⟩
  ·rw[List.getElem?_append_right (by simpa using hqi),List.length_replicate] at h1
   have hlt:=(List.getElem?_eq_some_iff.1 h1).1;rw[List.length_replicate] at hlt;rw[List.getElem?_replicate,if_pos hlt] at h1;injection h1 with h1
   exact .inr ⟨hqi,h1.symm⟩
 have hone:∀ {q:Nat} {one:Nat→Nat→Rs Part},(eu E0 T0 i j)[q]? =some one→(q<i→one=fun p d=>(E0 p d).map .inl)∧(i≤q→one=fun p d=>(T0 p d).map .inr):=fun {q one} h=>by
  unfold eu at h;refine⟨fun hqi=> ?_,fun hqi=> ?_⟩
  ·rw[List.getElem?_append_left (by simpa using hqi),List.getElem?_replicate,if_pos hqi] at h
   injection h with h
   exact h.symm
  ·rw[List.getElem?_append_right (by simpa using hqi),List.length_replicate] at h
   have hlt:=(List.getElem?_eq_some_iff.1 h).1;rw[List.length_replicate] at hlt;rw[List.getElem?_replicate,if_pos hlt] at h;injection h with h
   exact h.symm
 have hwi:=jC K hK g4 (eu E0 T0 i j) (L.map fun x=>(x.1,[Value.pointer (some ⟨x.2.1,0,none⟩),Value.pointer (some ⟨x.2.2,0,none⟩)])) AP cP
  (fun xs W=>Kp wr W∧∃evs tvs vE vT S,aK W g4 71 #[.int .i64 op, .string (strOf []),vE,vT]∧dt W g4 g4 (cR xs) (bZ xs) evs tvs vE vT S) (p+1) d wr pw9 (Nat.le_of_lt k4.lt) (by rw[hfl,hol]) (by rw[hol];omega)
  ⟨Kp.refl wr,[],[],_,_,_,k4,dt.nil wr g4 g4⟩
  (fun xs W W' p d hM hp hf=>by
   obtain⟨kp,evs,tvs,vE,vT,S,kt,aq⟩:=hM;exact⟨kp.fz hp.av hf,evs,tvs,vE,vT,S,kt.fz hf (by omega),aq.fz hf hgg4⟩)
  (fun xs W q f cp hM hj=>by
   obtain⟨kp,-⟩:=hM;obtain⟨x,hx,hxm,rfl,rfl⟩:=hget hj;obtain⟨A',c',hv,hr⟩:=(kp.own own).reads;injection hv with hv _ _
   subst hv;have hql:=(List.getElem?_eq_some_iff.1 hx).1;obtain⟨ad,hA,-,hc⟩:=hr.2 (by omega);exact⟨ad,hA,hc q _ (by rw[List.getElem?_map,hx];rfl)⟩)
  (fun q f cp hj=>by
   obtain⟨x,hx,hxm,rfl,rfl⟩:=hget hj;rcases hfid hx with ⟨-,e⟩|⟨-,e⟩
   ·rw[e];exact Cx
   ·rw[e];exact Dk)
  (fun q f cp one hj ho xs W p' hxl hpw hW hM hne1=>by
   obtain⟨x,hx,hxm,rfl,rfl⟩:=hget hj;have hql:=(List.getElem?_eq_some_iff.1 hx).1;obtain⟨o1,o2⟩:=hone ho;obtain⟨kp,evs,tvs,vE,vT,S,kt,aq⟩:=hM;obtain⟨bx1,bx2⟩:=bx x hxm;obtain⟨l1,l2⟩:=hexl xs;rcases hfid hx with ⟨hqi,e⟩|⟨hqi,e⟩
   ·have ho1:=o1 hqi
    subst ho1;have hne2:E0 p' (d+1)≠ .out:=Rs.fa hne1;rw[e]
    exact(yO K hK g4 g4 x.2.1 x.2.2 (d+1) p' op [] (cR xs) (bZ xs) evs tvs vE vT S E0 W hpw hgg4 (Nat.le_refl _) hW kt (kp.av bx1) (kp.av bx2) aq (by omega) (fun W' h1 _=>hE p' (d+1) W' h1 hne2) hne2).mono fun e W' hq=>hq.map fun a v W' h=>⟨kp.trans h.1,by
     have e1:cR (xs++[.inl a])=cR xs++[a]:=by unfold cR;rw[List.filterMap_append];rfl
     have e2:bZ (xs++[.inl a])=bZ xs:=by unfold bZ;rw[List.filterMap_append];simp
     rw[e1,e2];exact h.2⟩
   ·have ho2:=o2 hqi
    subst ho2;have hne2:T0 p' (d+1)≠ .out:=Rs.fa hne1;rw[e]
    exact(Bh K hK g4 g4 x.2.1 x.2.2 (d+1) p' op [] (cR xs) (bZ xs) evs tvs vE vT S T0 W hpw hgg4 (Nat.le_refl _) hW kt (kp.av bx1) (kp.av bx2) aq (by omega) (fun W' h1 _=>hT p' (d+1) W' h1 hne2) hne2).mono fun e W' hq=>hq.map fun a v W' h=>⟨kp.trans h.1,by
     have e1:cR (xs++[.inr a])=cR xs:=by unfold cR;rw[List.filterMap_append];simp
     have e2:bZ (xs++[.inr a])=bZ xs++[a]:=by unfold bZ;rw[List.filterMap_append];rfl
     rw[e1,e2];exact h.2⟩)
  (by rw[←hR];exact hneR)
 rw[←hR,hfl] at hwi;rcases Rs.dy hneR with ⟨q,ov,hr⟩|⟨xs,q,hr⟩
 ·rw[hr] at hwi hq
  refine Seq.cS (Ze Tryz.func166) rfl hwi ?_;rintro e w9 ⟨hf,rfl,d6,hp6⟩;refine⟨_,rfl,fun a ha=>⟨ha.defers,?_⟩⟩;rw[hq];exact⟨(bel0.step ae).trans (hf.less (by omega)),rfl,d6,hp6⟩
 have hxl:=et (hR.symm.trans hr);rw[hol] at hxl;obtain⟨l1,l2⟩:=hexl xs;rw[hr] at hwi hq;replace hq:dR K.ws E0 T0 p d= .ok (.mk op [] (cR xs) (bZ xs)) q:=hq;refine Zc (Ze Tryz.func166) (hwi) ?_;rintro e wq ⟨hf,v6,rfl,pwq,kpq,evs,tvs,vE,vT,S,k4q,aqq⟩;refine⟨_,rfl,?_⟩
 have k2q:aK wq g2 71 #[.int .i64 0, .string {data:= #[]}, .slice none 0 0, .slice none 0 0]:=by
  have h2:aK wr g2 71 #[.int .i64 0, .string {data:= #[]}, .slice none 0 0, .slice none 0 0]:=k2;have h1:=hf.block g2 (by omega) (by omega);unfold aK at h2⊢;rw[h1];exact h2
 have belq:Fz w.heap.size K.g w wq:=(bel0.step ae).trans (hf.less (by omega));have hrep:=aqq.tm op [] hop64 (by simp) (by simp) (by omega) (by omega);have hbn:=aqq.bounds;obtain⟨AE,cE,hvE,-⟩:=aqq.eW.reads;obtain⟨AT,cT,hvT,-⟩:=aqq.fh.reads;subst hvE hvT;clear ae k1 k2 k4;have ae:=belq;have k2:=k2q;have k4:=k4q;have hlt2:=k2.lt;refine cI 1 2 4 7 8 72 73 74 (aG ?_);refine Zv (aa.aQ rfl rfl Tryz.underlying71 rfl k4 (m:=4) (by kernel_rfl) rfl) ?_;refine Zo 4 k2 ?_;intro w8 pw8;replace ae:=ae.put k2 pw8 e2;replace k4:=k4.put pw8 (by omega);replace k2:=pw8.av;refine cI 1 2 4 7 8 72 73 74 (Zt (Cd.ret ?_));refine ab.cz rfl rfl k2 Tryz.underlying71 rfl (m:=4) (by kernel_rfl) rfl (.inl rfl) ?_;rw[hq];have hsz:=pw8.size;refine⟨ae,_,rfl,⟨pwq.av.put pw8 (by omega),pw.rd.below (ae.below (by omega) hle),pwq.bK,pwq.dU⟩,_,hrep.mono (fun _ h=>h) (fun a ha=>World.cell?_of_block (pw8.grown.block _ (hbn _ ha).2.1 (fun e=>by injection e with e;have:=(hbn _ ha).1;omega))),fun b hb=> ?_⟩;obtain⟨h1,h2,-⟩:=hbn b hb;exact⟨by omega,by omega⟩
theorem sW (K:Ctx)(hK:K.Ok):∀n,D2 K (ig K.ws n)
 |0=>fun p d W _ h=>absurd rfl h
 |n+1=>fun p d W hp hne=>Be K hK ((bH K.ws (n+1)).E 0) (ig K.ws n) (fun p d W hp hne=>(Ci K hK (n+1) (n+1) (Nat.le_refl _)).2 0 (by omega) p d W hp hne) (sW K hK n) p d W hp hne
theorem wk (g:Nat)(w:World):CallsD Tryz.prog 207 #[.pointer (some ⟨g,0,none⟩)] .returning w fun e u' w'=>e= .returned (.tuple #[])∧u'= .returning∧w'=w:=by
 refine callsD_of_wpS Tryz.func207 rfl fun c₀ cs hu=> ?_;apply wpS_seq;apply wpS_region;simp[wpOpsS,go_sem,recoverD,hu,Tryz.ntmps207,Exit.thenS];apply wpS_seq;apply wpS_region;simp[wpOpsS,go_sem,recoverD,hu,Exit.thenS,Tryz.underlying20];refine wpS_cond (t:=false) (by simp[Act.eval,Array.replicate]) ?_;simp only[Bool.false_eq_true,if_false];refine wpS_of_wp (wp_skip ?_)
 cases c₀
 simp_all [bodyPostS,results,Tryz.results207]
theorem ou:cf Tryz.prog 261=some (some (.agg #[])):=by kernel_rfl
theorem aa.typeAssert {P:Program}{E:Operand→Option Value}{o:Oper}{w:World}{x:Operand}{T T':TypeId}{b:Bool}{v u:Value}(ho:o.op= .typeAssert x T T' b)(hx:E x=some v)(hr:(Instr.typeAssert v T T' b).run P w= .ok u w):aa P E o w u w:=fun ρ h=>by
 unfold execOp;simp only[ho];rw[h _ _ hx];simp only[Sem.run_bind,hr,Result.andThen_ok];rfl
theorem Cd.at_ {P:Program}{c:Code}{Q:Exit→Act→World→Prop}{n:Nat}{F:List (Nat × Value)}{w:World}{a:Act}(h:Cd P c Q n F w)(ha:Fr n F a):c.wp P Q a w:=h a ha
theorem uL (g:Nat)(b:Bool)(w:World)(hb:aK w g 4 #[.bool b]):CallsD Tryz.prog 207 #[.pointer (some ⟨g,0,none⟩)] (.panicking m5) w fun e u' w'=>
  e= .returned (.tuple #[])∧u'= .panicking [{v:= .iface 261 (.agg #[]),recovered:=true}]∧aK w' g 4 #[.bool false]∧w.grownBy w' (some g):=by
 refine callsD_of_wpS Tryz.func207 rfl fun c₀ cs hu=> ?_;unfold m5 at hu;apply wpS_seq;apply wpS_region;simp[wpOpsS,go_sem,recoverD,hu,Tryz.ntmps207,Exit.thenS];apply wpS_seq;apply wpS_region;simp[wpOpsS,go_sem,recoverD,hu,Exit.thenS,Tryz.underlying20];refine wpS_cond (t:=true) (by simp[Act.eval,Array.replicate]) ?_;simp only[if_true];refine wpS_of_wp ?_;refine Cd.at_ (n:=15) (F:=[(0, .pointer (some ⟨g,0,none⟩)),(1, .iface 261 (.agg #[]))]) ?_ ⟨by simp,rfl,fun t v ht=> ?_⟩
 ·refine Cd.seq ?_
  refine ao ?_;refine Zm ?_;refine Zv (aa.typeAssert (u:= .tuple #[.agg #[], .bool true]) rfl rfl (by kernel_rfl)) ?_;refine Zm ?_;refine Zv (aa.extract rfl rfl rfl) ?_;refine Zv (aa.extract rfl rfl rfl) ?_;refine Zl ou ?_;intro g2 w1 n2;have hb1:=hb.step n2.below;refine Seq.jM (m:=0) rfl rfl rfl rfl (by kernel_rfl) rfl trivial n2.av (by simp[Value.cells]) rfl rfl ?_;intro w2 p2;have hne:g≠g2:=by have:=hb.lt;have:=n2.ge;omega
  have hb2:=hb1.put p2 hne;refine Za ?_;refine Seq.nil (aG ?_);refine Zm ?_;refine Zv (aa.not rfl rfl) ?_;refine Seq.nil (Zt ?_);refine Cd.aN rfl rfl ?_;refine Cd.skip (ei ?_);refine Zq hb2 ?_;intro w3 p3;refine Seq.nil ?_;intro a ha
  have hgr:w.grownBy w3 (some g):=by
   have h1:w.grownBy w1 (some g):=⟨n2.below.os,n2.below.tape,n2.below.output,n2.below.size,fun k hk _=>n2.below.block k hk⟩;have h2:w1.heap.size=w2.heap.size:=p2.size.symm;refine⟨p3.grown.os.trans (p2.grown.os.trans h1.os),p3.grown.tape.trans (p2.grown.tape.trans h1.tape),p3.grown.output.trans (p2.grown.output.trans h1.output),by have:=h1.size;have:=p2.size;have:=p3.size;omega,fun k hk hne2=> ?_⟩;have hge:=n2.ge;have hs1:=h1.size;rw[p3.grown.block k (by omega) hne2,p2.grown.block k (by omega) (fun e=>by injection e with e;omega)];exact h1.block k hk hne2
  refine⟨ha.defers,_,?_, .tuple #[],?_,rfl,rfl,p3.av,hgr⟩
  ·cases c₀
   simp_all
  ·exact results_none rfl _ _ _
 rcases b8 ht with ⟨rfl,rfl⟩|⟨-,ht⟩
 ·simp
 rcases b8 ht with ⟨rfl,rfl⟩|⟨-,ht⟩
 ·simp
 cases ht
end Go.Proofs.YtigoimhndlnhfaaGreat