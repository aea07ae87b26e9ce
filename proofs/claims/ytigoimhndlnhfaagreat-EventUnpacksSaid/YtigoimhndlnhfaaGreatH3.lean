/-
  Texts that were joined: PanD, KS, PanE, PanF, PanG, PanH, PanI, PanJ, PanK, PanL, PanM, LexI. Conditions: what each theorem names.
-/
import Derived.Test.YtigoimhndlnhfaaGreatH2
import Derived.Recover
set_option linter.unusedSectionVars false
namespace Go.Proofs.YtigoimhndlnhfaaGreat
open Go.RowKit
theorem Ctx.Ok.Bi {K:Ctx}(hK:K.Ok){w:World}{p d:Nat}{ov:Bool}(h:PW K w p d ov):K.B≤w.heap.size:=by have:=hK.le;have:=h.an.lt;omega
theorem mH (ws:List Wd)(s:List Nat)(p:Nat):dO ws s p≠ .out:=by unfold dO;split<;>simp
theorem ld (p d:Nat):dX p d≠ .out:=by unfold dX;split<;>simp
theorem qR (ws:List Wd)(p:Nat):eA ws p≠ .out:=by unfold eA;split<;>simp
theorem iI {α:Type}(ws:List Wd)(one:Nat→Nat→Rs α)(r:List (Nat→Nat→Rs α))(first:Bool)(p d:Nat):cn ws (one::r) first p d=(if first=true then Rs.ok () p else dO ws [44] p).bind fun _ p=>(one p d).bind fun x p=>(cn ws r false p d).bind fun xs p=> .ok (x::xs) p:=rfl
theorem PW.deep {K:Ctx}{w:World}{p d:Nat}(h:PW K w p d false):d≤64:=by
 rcases h.cD with h|⟨h,-⟩
 ·exact h
 ·cases h
theorem qM.mono {α:Type}{K:Ctx}{h d:Nat}{w w':World}{r:Rs α}{ok1 ok2:α→Value→World→Prop}{e:Ending}(hr:qM K h w d r ok1 e w')(hm:∀a v w',ok1 a v w'→ok2 a v w'):qM K h w d r ok2 e w':=by
 refine⟨hr.1,?_⟩
 cases r with
 |out=>exact hr.2
 |bad p o=>exact hr.2
 |ok a p=>obtain⟨v,h1,h2,h3⟩:=hr.2;exact⟨v,h1,h2,hm _ _ _ h3⟩
theorem gX {α:Type}(K:Ctx)(hK:K.Ok)(h0:Nat)(bt:List (Nat→Nat→Rs α))(fs:List (Nat × List Value))(AP:Option Addr)(cP:Nat)(M:List α→World→Prop)(p d:Nat)(w:World)(h:PW K w p d false)(hh0:h0≤w.heap.size)
  (hlen:fs.length=bt.length) (hn:bt.length≤10) (hM0:M [] w) (hMs:∀(xs:List α) (W W':World) (p d:Nat),M xs W→PW K W p d false→Fz W.heap.size K.g W W'→M xs W')
  (hMr:∀(xs:List α) (W:World) (i f:Nat) (cp:List Value),M xs W→fs[i]? =some (f,cp)→∃ad,AP=some ad∧W.cell? (ad.add i)=some (.func (.func f) #[] cp.toArray))
  (heg:∀(i f:Nat) (cp:List Value),fs[i]? =some (f,cp)→∀args w,(callFunc f args).run Tryz.prog w= .ok (.enter f args) w)
  (hone:∀(i f:Nat) (cp:List Value) (one:Nat→Nat→Rs α),fs[i]? =some (f,cp)→bt[i]? =some one→∀(xs:List α) (W:World) (p:Nat),xs.length=i→PW K W p (d+1) false→h0≤W.heap.size→M xs W→one p (d+1)≠ .out→Calls Tryz.prog f cp.toArray W (qM K h0 W (d+1) (one p (d+1)) fun x _ W'=>M (xs++[x]) W'))
  (hne:bW K.ws bt p d≠ .out):
  Calls Tryz.prog 166 #[.pointer (some ⟨K.g,0,none⟩), .slice AP fs.length cP] w (qM K h0 w d (bW K.ws bt p d) fun xs _ W'=>M xs W'):=by
 have bel:=Fz.refl h0 K.g w;have pw:=h;have e99:K.g=K.g:=rfl;have hlt:=h.an.lt;have hle:=hK.le;obtain⟨R,hR⟩:∃R,R=bW K.ws bt p d:=⟨_,rfl⟩;rw[←hR] at hne⊢;have hRu:R=(dO K.ws [40] p).bind fun _ p=>(dX p d).bind fun _ p=>(cn K.ws bt true p (d+1)).bind fun xs p=>(dO K.ws [41] p).bind fun _ p=> .ok xs p:=hR;clear hR;have hsg:=kT K hK p d [40] w h (by decide);refine Zs 33 Tryz.func166 ?_;refine ah ?_;refine Zm ?_;rcases Rs.bZ (mH K.ws [40] p) with ⟨p1,o1,hr1⟩|⟨u1,p1,hr1⟩
 ·rw[hr1] at hsg hRu
  refine Seq.bJ (Ze Tryz.func208) rfl hsg ?_;rintro e w6 ⟨hf,rfl,d6,hp6⟩;refine⟨_,rfl,fun a ha=>⟨ha.defers,?_⟩⟩;rw[hRu];exact⟨hf.less hh0,rfl,d6,hp6⟩
 rw[hr1] at hsg hRu;replace hRu:R=(dX p1 d).bind fun _ p=>(cn K.ws bt true p (d+1)).bind fun xs p=>(dO K.ws [41] p).bind fun _ p=> .ok xs p:=hRu;refine Zc (Ze Tryz.func208) (hsg) ?_;rintro e w5 ⟨hf5,v5,rfl,pw,-⟩;refine⟨_,rfl,?_⟩;replace bel:=bel.call hf5 hh0;have hs5:=bel.size;have hM5:=hMs _ _ _ _ _ hM0 h hf5;have hen:=kR K hK p1 d w5 pw;have pwo:=pw;refine cZ 0 1 (az ?_);refine Zm ?_;rcases Rs.bZ (ld p1 d) with ⟨p2,o2,hr2⟩|⟨u2,p2,hr2⟩
 ·rw[hr2] at hen hRu
  refine Seq.bJ (Ze Tryz.func209) rfl hen ?_;rintro e w6 ⟨hf,rfl,d6,hp6⟩;refine⟨_,rfl,fun a ha=>⟨ha.defers,?_⟩⟩;rw[hRu];exact⟨bel.call hf hh0,rfl,d6,hp6⟩
 rw[hr2] at hen hRu;replace hRu:R=(cn K.ws bt true p2 (d+1)).bind fun xs p=>(dO K.ws [41] p).bind fun _ p=> .ok xs p:=hRu;refine Zc (Ze Tryz.func209) (hen) ?_;rintro e w6 ⟨hf6,v6,rfl,pw,-⟩;refine⟨_,rfl,?_⟩;replace bel:=bel.call hf6 hh0;have hs6:=bel.size;have hM6:=hMs _ _ _ _ _ hM5 pwo hf6;obtain⟨R0,hR0⟩:∃R0,R0=cn K.ws bt true p2 (d+1):=⟨_,rfl⟩;rw[←hR0] at hRu;have hne0:R0≠ .out:=Rs.dP (by rw[←hRu];exact hne);refine cZ 0 1 (aH (ah ?_));refine Zm ?_;refine Zv (aa.len rfl rfl Tryz.underlying225) ?_;refine Zm ?_;refine aL 0 1 10 11 12 (Zt (Cd.block ?_))
 refine Cd.loop (σ:=Nat × Nat × List α) (fun s=>[(0, .pointer (some ⟨K.g,0,none⟩)),(10, .slice AP fs.length cP),(11, .int .i64 (fs.length:Int)),(12, .int .i64 (s.1:Int))])
  (fun s wr=>s.1≤bt.length∧PW K wr s.2.1 (d+1) false∧Fz h0 K.g w wr∧M s.2.2 wr∧s.2.2.length=s.1∧R0=(cn K.ws (bt.drop s.1) (decide (s.1=0)) s.2.1 (d+1)).bind fun ys p=> .ok (s.2.2++ys) p)
  (fun s=>bt.length-s.1) (0,p2,[]) ⟨Nat.zero_le _,pw,bel,hM6,rfl,by rw[hR0];show _=(cn K.ws bt true p2 (d+1)).bind _;cases cn K.ws bt true p2 (d+1)<;>rfl⟩ ⟨rfl,rfl,rfl,rfl,trivial⟩ ?_
 clear bel pw hM6 hM5 hM0 hR0;rintro⟨i,pi,xs⟩ wr ⟨hi,pw,bel,hM,hxl,hinv⟩;dsimp only at hi pw hM hxl hinv⊢;have hsr:=bel.size;refine ah ?_;refine eU ?_;refine aL 0 10 11 12 13 (aH ?_);refine Cd.ao rfl (fun hc=> ?_) (fun hc=> ?_)
 ·obtain⟨one,ho⟩:∃one,bt[i]? =some one:=⟨_,List.getElem?_eq_getElem (by omega)⟩
  obtain⟨⟨f,cp⟩,hfc⟩:∃f,fs[i]? =some f:=⟨_,List.getElem?_eq_getElem (by omega)⟩;obtain⟨ad,hA,hcl⟩:=hMr xs wr i f cp hM hfc
  have hdr:bt.drop i=one::bt.drop (i+1):=by
   have hlt:=(List.getElem?_eq_some_iff.1 ho).1;rw[List.drop_eq_getElem_cons hlt];rw[List.getElem?_eq_getElem hlt] at ho;injection ho with ho
   rw[ho]
  rw[hdr] at hinv;rw[hA];refine Cd.skip (aH (Cd.block (ah ?_)));refine Zm ?_;refine Zv (aa.gA rfl rfl rfl Tryz.underlying225 (by kernel_rfl) (j:=i) rfl (by omega)) ?_;refine Zv (aa.jN rfl rfl Tryz.underlying1 rfl hcl) ?_;refine Za ?_;refine Za ?_;refine ba 0 4 5 10 11 12 13 (Zt ?_);refine Cd.kH (σ:=Nat) (fun _=>[(0, .pointer (some ⟨K.g,0,none⟩)),(5, .func (.func f) #[] cp.toArray),(10, .slice (some ad) fs.length cP),(11, .int .i64 (fs.length:Int)),(12, .int .i64 (i:Int))]) (fun pj wj=>PW K wj pj (d+1) false∧Fz h0 K.g w wj∧M xs wj∧R0=(one pj (d+1)).bind fun x p=>(cn K.ws (bt.drop (i+1)) false p (d+1)).bind fun ys p=> .ok (xs++(x::ys)) p) ?_ ?_
  ·skip
   refine ah ?_;refine Zm ?_;refine qK ?_;refine bO 0 4 5 10 11 12 13 18 (Zt ?_);refine Cd.ao rfl (fun hc=> ?_) (fun hc=> ?_)
   ·have hinv:R0=(dO K.ws [44] pi).bind fun _ p=>(one p (d+1)).bind fun x p=>(cn K.ws (bt.drop (i+1)) false p (d+1)).bind fun ys p=> .ok (xs++(x::ys)) p:=by
     rw[hinv,iI,decide_eq_false (show¬i=0 by omega),if_neg (by decide)];simp only[Rs.bind_assoc];rfl
    have hsg:=kT K hK pi (d+1) [44] wr pw (by decide);have pwo:=pw;refine Zr ?_;refine Zm ?_;rcases Rs.bZ (mH K.ws [44] pi) with ⟨p1,o1,hr1⟩|⟨u1,p1,hr1⟩
    ·rw[hr1] at hsg hinv
     refine Seq.bJ (Ze Tryz.func208) rfl hsg ?_;rintro e w7 ⟨hf,rfl,d6,hp6⟩;refine⟨_,rfl,fun a ha=>⟨ha.defers,?_⟩⟩;rw[hRu,hinv];exact⟨bel.call hf hh0,rfl,d6,hp6⟩
    rw[hr1] at hsg hinv;refine Zc (Ze Tryz.func208) (hsg) ?_;rintro e w7 ⟨hf7,v7,rfl,pw,-⟩;refine⟨_,rfl,?_⟩;refine bO 0 4 5 10 11 12 13 18 ?_;exact ab.join p1 ⟨rfl,rfl,rfl,rfl,rfl,trivial⟩ ⟨pw,bel.call hf7 hh0,hMs _ _ _ _ _ hM pwo hf7,hinv⟩
   ·obtain rfl:i=0:=by omega
    refine Cd.skip ?_;refine ab.join pi ⟨rfl,rfl,rfl,rfl,rfl,trivial⟩ ⟨pw,bel,hM,?_⟩;rw[hinv,iI,decide_eq_true rfl,if_pos rfl];simp only[Rs.bind_assoc,Rs.eJ]
  clear bel pw hM hinv;rintro pj wj ⟨pw,bel,hM,hinv⟩;have hsj:=bel.size;have hne1:one pj (d+1)≠ .out:=Rs.dP (by rw[←hinv];exact hne0);have hcall:=hone i f cp one hfc ho xs wj pj hxl pw (by omega) hM hne1;refine Zr ?_;refine Zm ?_;rcases Rs.bZ hne1 with ⟨p1,o1,hr1⟩|⟨x,p1,hr1⟩
  ·rw[hr1] at hcall hinv
   refine Seq.bJ (Enters.value (first:=[]) (cap:=cp) rfl rfl rfl (heg i f cp hfc)) rfl hcall ?_;rintro e w7 ⟨hf,rfl,d6,hp6⟩;refine⟨_,rfl,fun a ha=>⟨ha.defers,?_⟩⟩;rw[hRu,hinv];exact⟨bel.trans hf,rfl,d6,hp6⟩
  rw[hr1] at hcall hinv;refine Seq.call (Enters.value (first:=[]) (cap:=cp) rfl rfl rfl (heg i f cp hfc)) rfl rfl rfl hcall ?_;rintro e w7 ⟨hf7,v7,rfl,pw,hM⟩;refine⟨_,rfl,?_⟩;refine aL 0 5 10 11 12 (ab.ag (et ?_));refine dq ?_;refine Zm ?_;refine aL 0 5 10 11 12 ?_;refine ab.round (i+1,p1,xs++[x]) ⟨rfl,rfl,rfl,rfl,trivial⟩ ⟨by dsimp only;omega,pw,bel.trans hf7,hM,by dsimp only;rw[List.length_append,hxl];rfl,?_⟩ (by dsimp only;omega);dsimp only;rw[hinv,decide_eq_false (show¬i+1=0 by omega),Rs.eJ];simp only[List.append_assoc,List.cons_append,List.nil_append]
 ·obtain rfl:i=bt.length:=by omega
  rw[List.drop_of_length_le (Nat.le_refl _)] at hinv;have hinv:R0= .ok xs pi:=by rw[hinv];unfold cn;rw[Rs.eJ,List.append_nil]
  rw[hinv] at hRu;replace hRu:R=(dO K.ws [41] pi).bind fun _ p=> .ok xs p:=hRu;have hsg:=kT K hK pi (d+1) [41] wr pw (by decide);have pwo:=pw;refine Cd.exit (ab.aD (ab.ay (ab.aA (az ?_))));refine Zm ?_;rcases Rs.bZ (mH K.ws [41] pi) with ⟨p1,o1,hr1⟩|⟨u1,p1,hr1⟩
  ·rw[hr1] at hsg hRu
   refine Seq.bJ (Ze Tryz.func208) rfl hsg ?_;rintro e w7 ⟨hf,rfl,d6,hp6⟩;refine⟨_,rfl,fun a ha=>⟨ha.defers,?_⟩⟩;rw[hRu];exact⟨bel.call hf hh0,rfl,d6,hp6⟩
  rw[hr1] at hsg hRu;refine Zc (Ze Tryz.func208) (hsg) ?_;rintro e w7 ⟨hf7,v7,rfl,pw,-⟩;refine⟨_,rfl,?_⟩;replace bel:=bel.call hf7 hh0;have hM:=hMs _ _ _ _ _ hM pwo hf7;have k99:=pw.an;have hd64:=pw.deep;have loc:=Fz.refl w7.heap.size K.g w7;refine aL 0 10 11 12 13 (et ?_);refine Zm ?_;refine Zv (aa.nilCheck rfl rfl) ?_;refine Zf 2 Tryz.underlying219 ?_;refine ZL Tryz.underlying3 k99 ?_;refine qq ?_;refine Zv (aa.nilCheck rfl rfl) ?_;refine Zf 2 Tryz.underlying219 ?_;refine Zq k99 ?_;intro w1 pw1;replace bel:=bel.put k99 pw1 e99;replace loc:=loc.put k99 pw1 e99;replace k99:=pw1.an;refine aL 0 10 11 12 13 ?_;refine ab.du rfl (.inr rfl) ?_;rw[hRu];have hcast:((d+1:Nat):Int)-1=(d:Int):=by omega
  rw[hcast] at k99;exact⟨bel,_,rfl,⟨k99,pw.rd.below (loc.below (hK.Bi pw) hle),pw.cj, .inl (by omega)⟩,hMs _ _ _ _ _ hM pw loc⟩
variable [Inhabited (List Deferred)]
theorem dN (A B:List (Nat × Value))(t:Nat):look (A++B) t=match look A t with|some v=>some v|none=>look B t:=by
 induction A with
 |nil=>rfl
 |cons x r ih=>
  obtain⟨k,v⟩:=x;show(bif Nat.beq k t then some v else look (r++B) t)=match (bif Nat.beq k t then some v else look r t) with|some v=>some v|none=>look B t
  cases Nat.beq k t with
  |true=>rfl
  |false=>exact ih
def cl (S:Nat→Bool):Nat→List Oper→List Value→List (Nat × Value)
 |k,o::r,v::vs=>match o.dst with
  |some d=>bif S k then(d,v)::cl S (k+1) r vs else cl S (k+1) r vs
  |none=>cl S (k+1) r vs
 |_,_,_=>[]
theorem dz {S:Nat→Bool}:∀ {l:List Oper} {vs:List Value} {k t:Nat} {v:Value},look (cl S k l vs) t=some v→∃(j:Nat) (o:Oper),l[j]? =some o∧o.dst=some t∧vs[j]? =some v∧S (k+j)=true
 | [],_,_,_,_,h=>by simp[cl,look] at h
 |_::_,[],_,_,_,h=>by simp[cl,look] at h
 |o::r,v::vs,k,t,u,h=>by
  unfold cl at h
  have up:look (cl S (k+1) r vs) t=some u→∃(j:Nat) (o':Oper),(o::r)[j]? =some o'∧o'.dst=some t∧(v::vs)[j]? =some u∧S (k+j)=true:=fun h=>by
   obtain⟨j,o',h1,h2,h3,h4⟩:=dz h;exact⟨j+1,o',by simpa using h1,h2,by simpa using h3,by rw[show k+(j+1)=k+1+j from by omega];exact h4⟩
  cases hd:o.dst with
  |none=>rw[hd] at h;exact up h
  |some d=>
   rw[hd] at h;simp only at h
   cases hS:S k with
   |false=>rw[hS] at h;exact up h
   |true=>
    rw[hS,cond_true] at h;rcases bA h with ⟨rfl,rfl⟩|⟨_,h⟩
    ·exact⟨0,o,rfl,hd,rfl,hS⟩
    ·exact up h
theorem j0 {S:Nat→Bool}:∀ {l:List Oper} {vs:List Value} {k j:Nat} {o:Oper} {d:Nat} {v:Value},l[j]? =some o→o.dst=some d→vs[j]? =some v→S (k+j)=true→(∀i o',l[i]? =some o'→i≠j→o'.dst≠some d)→look (cl S k l vs) d=some v
 | [],_,_,_,_,_,_,h,_,_,_,_=>by simp at h
 |_::_,[],_,_,_,_,_,_,_,h,_,_=>by simp at h
 |o0::r,v0::vs,k,0,o,d,v,h1,h2,h3,h4,h5=>by
  simp at h1 h3;subst h1 h3;unfold cl;rw[h2];simp only;rw[Nat.add_zero] at h4;rw[h4,cond_true];unfold look;rw[Nat.beq_refl];rfl
 |o0::r,v0::vs,k,j+1,o,d,v,h1,h2,h3,h4,h5=>by
  have ih:=j0 (S:=S) (l:=r) (vs:=vs) (k:=k+1) (j:=j) (o:=o) (d:=d) (v:=v) (by simpa using h1) h2 (by simpa using h3) (by rw[show k+1+j=k+(j+1) from by omega];exact h4) (fun i o' hi hne=>h5 (i+1) o' (by simpa using hi) (by omega));unfold cl
  cases hd:o0.dst with
  |none=>exact ih
  |some d0=>
   simp only
   cases S k with
   |false=>exact ih
   |true=>
    have hne:d0≠d:=fun e=>h5 0 o0 rfl (by omega) (by rw[hd,e]);rw[cond_true];unfold look
    have:Nat.beq d0 d=false:=by
     cases hb:Nat.beq d0 d with
     |false=>rfl
     |true=>exact absurd (Nat.eq_of_beq_eq_true hb) hne
    rw[this,cond_false];exact ih
section
variable {P:Program} {Q:Exit→Act→World→Prop} {n:Nat} {F0:List (Nat × Value)}
def iU (l:List Oper)(F0:List (Nat × Value))(vs:List Value)(S:Nat→Bool)(o:Oper):List (Nat × Value):=cl (fun k=>aT (direct o) k) 0 l vs++(F0++cl S 0 l vs)
def qd {σT:Type}(l:List Oper)(n:Nat)(F0:List (Nat × Value))(vs:σT→List Value)(X:σT→(Nat→Bool)→World→Prop)(S:Nat→Bool)(k:Nat)(a:Act)(w:World):Prop:=
 ∃σ,Fr n F0 a∧(∀(j:Nat) (o:Oper) (d:Nat) (v:Value),l[j]? =some o→o.dst=some d→fE S k j=true→(vs σ)[j]? =some v→a.tmps[d]? =some v)∧X σ (fE S k) w
def zI (l:List Oper)(S:Nat→Bool):Prop:=∀(i:Nat) (o:Oper),l[i]? =some o→S i=true→∀x∈direct o,S x=true
def Bl {σT:Type}(P:Program)(ops:Array Oper)(Q:Exit→Act→World→Prop)(l:List Oper)(n:Nat)(F0:List (Nat × Value))(vs:σT→List Value)(X:σT→(Nat→Bool)→World→Prop)(k:Nat)(o:Oper):Prop:=
 ∀(σ:σT) (S:Nat→Bool) (w:World),S k=false→(∀x∈direct o,S x=true)→zI l S→X σ S w→Seq P ops (Exit.then (qd l n F0 vs X S k) Q) [o] n (iU l F0 (vs σ) S o) w
theorem vC {o:Oper}{a:Act}{w:World}{K K':Act→World→Prop}(h:o.wp P a w K (Exit.then K' Q)):o.wp P a w K Q:=by
 unfold Oper.wp at *;unfold Oper.upon at *;split at h<;>exact h
theorem fA {l:List Oper}{keys:List Nat}(hchk:ft n keys 0 [] l=true){j:Nat}{o:Oper}{d:Nat}(h:l[j]? =some o)(hd:o.dst=some d):d<n∧d∉keys∧∀i o',l[i]? =some o'→i≠j→o'.dst≠some d:=by
 obtain⟨-,h2⟩:=dG hchk j o h;obtain⟨a1,-,a3,a4⟩:=h2 d hd;exact⟨a1,a3,a4⟩
theorem ab.aG {σT:Type}{l:List Oper}{vs:σT→List Value}{X:σT→(Nat→Bool)→World→Prop}{σ σ':σT}{S:Nat→Bool}{k d:Nat}{o:Oper}{u:Value}{w':World}(hchk:ft n (gy F0) 0 [] l=true)(ho:l[k]? =some o)(hd:o.dst=some d)(hpre:∀x∈direct o,S x=true)(hu:(vs σ')[k]? =some u)(hj:∀j,S j=true→(vs σ')[j]? =(vs σ)[j]?)(hX:X σ' (fE S k) w'):
  ab (Exit.then (qd l n F0 vs X S k) Q) .normal n ((d,u)::iU l F0 (vs σ) S o) w':=by
 intro a ha;obtain⟨b1,b2,b3⟩:=fA hchk ho hd
 have hF:∀t v,look F0 t=some v→a.tmps[t]? =some v:=fun t v ht=>by
  have hk:=fy ht
  have hnone:∀S',look (cl S' 0 l (vs σ)) t=none:=fun S'=>by
   cases hl:look (cl S' 0 l (vs σ)) t with
   |none=>rfl
   |some x=>
    obtain⟨j,o',h1,h2,-,-⟩:=dz hl;exact absurd hk (fA hchk h1 h2).2.1
  refine ha.slot t v ?_;unfold look
  cases hb:Nat.beq d t with
  |true=>rw[Nat.eq_of_beq_eq_true hb] at b2;exact absurd hk b2
  |false=>
   rw[cond_false];unfold iU;rw[dN,hnone];simp only;rw[dN,ht]
 refine⟨σ',⟨ha.size,ha.defers,hF⟩,fun j o' d' v h1 h2 h3 h4=> ?_,hX⟩
 by_cases hjk:j=k
 ·subst hjk
  rw[ho] at h1;injection h1 with h1
  subst h1;rw[hd] at h2;injection h2 with h2
  subst h2;rw[hu] at h4;injection h4 with h4
  subst h4;exact ha.slot d u (by unfold look;rw[Nat.beq_refl];rfl)
 ·have hS:S j=true:=by unfold fE at h3;rwa [if_neg hjk] at h3
  have hv:(vs σ)[j]? =some v:=by rw[←hj j hS];exact h4
  obtain⟨c1,c2,c3⟩:=fA hchk h1 h2;refine ha.slot d' v ?_;have hne:d≠d':=fun e=>b3 j o' h1 hjk (by rw[h2,e]);unfold look
  have hb:Nat.beq d d'=false:=by
   cases hb:Nat.beq d d' with
   |false=>rfl
   |true=>exact absurd (Nat.eq_of_beq_eq_true hb) hne
  rw[hb,cond_false];unfold iU;rw[dN];have h0:look (cl S 0 l (vs σ)) d'=some v:=j0 h1 h2 hv (by rw[Nat.zero_add];exact hS) c3
  cases hl:look (cl (fun k=>aT (direct o) k) 0 l (vs σ)) d' with
  |none=>
   simp only;rw[dN]
   cases hf:look F0 d' with
   |none=>simp only;exact h0
   |some y=>exact absurd (fy hf) c2
  |some x=>
   obtain⟨i,oi,e1,e2,e3,-⟩:=dz hl
   have:i=j:=by
    by_cases hij:i=j
    ·exact hij
    ·exact absurd e2 (c3 i oi e1 hij)
   subst this;rw[hv] at e3;exact e3.symm
theorem ab.jt {σT:Type}{l:List Oper}{vs:σT→List Value}{X:σT→(Nat→Bool)→World→Prop}{σ σ':σT}{S:Nat→Bool}{k:Nat}{o:Oper}{w':World}(hchk:ft n (gy F0) 0 [] l=true)(ho:l[k]? =some o)(hd:o.dst=none)(hj:∀j,S j=true→(vs σ')[j]? =(vs σ)[j]?)(hX:X σ' (fE S k) w'):
  ab (Exit.then (qd l n F0 vs X S k) Q) .normal n (iU l F0 (vs σ) S o) w':=by
 intro a ha
 have hF:∀t v,look F0 t=some v→a.tmps[t]? =some v:=fun t v ht=>by
  have hk:=fy ht
  have hnone:∀S',look (cl S' 0 l (vs σ)) t=none:=fun S'=>by
   cases hl:look (cl S' 0 l (vs σ)) t with
   |none=>rfl
   |some x=>
    obtain⟨j,o',h1,h2,-,-⟩:=dz hl;exact absurd hk (fA hchk h1 h2).2.1
  refine ha.slot t v ?_;unfold iU;rw[dN,hnone];simp only;rw[dN,ht]
 refine⟨σ',⟨ha.size,ha.defers,hF⟩,fun j o' d' v h1 h2 h3 h4=> ?_,hX⟩
 have hjk:j≠k:=fun e=>by
  subst e;rw[ho] at h1;injection h1 with h1
  subst h1;rw[hd] at h2
  cases h2
 have hS:S j=true:=by unfold fE at h3;rwa [if_neg hjk] at h3
 have hv:(vs σ)[j]? =some v:=by rw[←hj j hS];exact h4
 obtain⟨c1,c2,c3⟩:=fA hchk h1 h2;refine ha.slot d' v ?_;unfold iU;rw[dN];have h0:look (cl S 0 l (vs σ)) d'=some v:=j0 h1 h2 hv (by rw[Nat.zero_add];exact hS) c3
 cases hl:look (cl (fun k=>aT (direct o) k) 0 l (vs σ)) d' with
 |none=>
  simp only;rw[dN]
  cases hf:look F0 d' with
  |none=>simp only;exact h0
  |some y=>exact absurd (fy hf) c2
 |some x=>
  obtain⟨i,oi,e1,e2,e3,-⟩:=dz hl
  have:i=j:=by
   by_cases hij:i=j
   ·exact hij
   ·exact absurd e2 (c3 i oi e1 hij)
  subst this;rw[hv] at e3;exact e3.symm
def vx:List Oper→List Value→List (Nat × Value)→List (Nat × Value)
 |o::r,v::vs,F=>match o.dst with
  |some d=>(d,v)::vx r vs F
  |none=>vx r vs F
 |_,_,F=>F
theorem oZ:∀ {l:List Oper} {vs:List Value} {F:List (Nat × Value)} {t:Nat} {v:Value},look (vx l vs F) t=some v→(∃(j:Nat) (o:Oper),l[j]? =some o∧o.dst=some t∧vs[j]? =some v)∨look F t=some v
 | [],_,_,_,_,h=> .inr h
 |_::_,[],_,_,_,h=> .inr h
 |o::r,u::vs,F,t,v,h=>by
  have up:look (vx r vs F) t=some v→(∃(j:Nat) (o':Oper),(o::r)[j]? =some o'∧o'.dst=some t∧(u::vs)[j]? =some v)∨look F t=some v:=fun h=>by
   rcases oZ h with ⟨j,o',h1,h2,h3⟩|h
   ·exact .inl ⟨j+1,o',by simpa using h1,h2,by simpa using h3⟩
   ·exact .inr h
  unfold vx at h
  cases hd:o.dst with
  |none=>rw[hd] at h;exact up h
  |some d=>
   rw[hd] at h;simp only at h;rcases bA h with ⟨rfl,rfl⟩|⟨_,h⟩
   ·exact .inl ⟨0,o,rfl,hd,rfl⟩
   ·exact up h
theorem nx (m i:Nat):(Array.replicate m false).getD i false=false:=by by_cases h:i<m<;>simp[h]
def tS (ds:List Nat):Nat→Bool
 |0=>true
 |k+1=>aT ds k&&tS ds k
theorem nd {ds:List Nat}:∀ {m:Nat},tS ds m=true→∀i,i<m→i∈ds
 |0,_,i,hi=>by omega
 |m+1,h,i,hi=>by
  unfold tS at h;simp only[Bool.and_eq_true] at h;rcases Nat.lt_or_ge i m with h1|h1
  ·exact nd h.2 i h1
  ·obtain rfl:i=m:=by omega
   exact ax h.1
def qw (m:Nat):List Oper→Bool
 | []=>true
 |o::r=>tS (direct o) m&&iz m (direct o)&&kL (m+1) r
theorem Cd.lH {σT:Type}(m:Nat){id:Nat}{l:List Oper}{w:World}(hm:P.follows .mixedOrders=true)(hchk:ft n (gy F0) 0 [] (l.take m)=true)(hrest:qw (l.take m).length (l.drop m)=true)(vs:σT→List Value)(X:σT→(Nat→Bool)→World→Prop)(σ0:σT)
  (h0:∀w0,Below w.heap.size w w0→w0.heap.size=w.heap.size→X σ0 (fun _=>false) w0)
  (hstep:∀(k:Nat) (o:Oper),(l.take m)[k]? =some o→Bl P l.toArray Q (l.take m) n F0 vs X k o)
  (hfin:∀(σ:σT) (S:Nat→Bool) (w:World),(∀i,i<(l.take m).length→S i=true)→X σ S w→Seq P l.toArray Q (l.drop m) n (vx (l.take m) (vs σ) F0) w):Cd P (.region id l.toArray true) Q n F0 w:=by
 have hops:l.toArray=(l.take m++l.drop m).toArray:=by rw[List.take_append_drop]
 revert hchk hrest hstep hfin
 generalize l.take m=init at *
 generalize l.drop m=tail at *
 intro hchk hrest hstep hfin
 generalize l.toArray=ops at *
 intro a ha;refine wp_region_any hm ?_;have hw0:=h0 {w with drawn:=w.drawn+1} ⟨rfl,rfl,rfl,Nat.le_refl _,fun _ _=>rfl⟩ rfl;have c1:=dG hchk;have hsz:ops.size=init.length+tail.length:=by rw[hops];simp
 have hat:∀i,i<init.length→ops[i]? =init[i]? :=fun i hi=>by rw[hops];simp[List.getElem?_append_left hi]
 have hat2:∀r,ops[init.length+r]? =tail[r]? :=fun r=>by rw[hops];simp[List.getElem?_append_right]
 have t0:∀o,tail[0]? =some o→(∀x∈direct o,x<init.length)∧∀i,i<init.length→i∈direct o:=by
  intro o ho
  cases tail with
  |nil=>simp at ho
  |cons o1 r=>
   obtain rfl:o1=o:=by simpa using ho
   unfold qw at hrest;simp only[Bool.and_eq_true] at hrest;exact⟨cC hrest.1.2,nd hrest.1.1⟩
 have ts:∀i o,tail[i+1]? =some o→(∀x∈direct o,x<init.length+1+i)∧init.length+1+i-1∈direct o:=by
  intro i o ho
  cases tail with
  |nil=>simp at ho
  |cons o1 r=>
   unfold qw at hrest;simp only[Bool.and_eq_true] at hrest;exact fp hrest.2 i o (by simpa using ho)
 have key:∀(fuel:Nat) (listed:Array Bool) (σ:σT) (a:Act) (w:World),listed.size=ops.size→zI init (fun j=>listed.getD j false)→(∀i,init.length≤i→i<ops.size→listed.getD i true=false)→Fr n F0 a→(∀(j:Nat) (o:Oper) (d:Nat) (v:Value),init[j]? =some o→o.dst=some d→listed.getD j false=true→(vs σ)[j]? =some v→a.tmps[d]? =some v)→X σ (fun j=>listed.getD j false) w→left listed ops.size≤fuel→wpAny P .any ops Q fuel listed a w:=by
  have fin:∀(fuel:Nat) (listed:Array Bool) (σ:σT) (a:Act) (w:World),listed.size=ops.size→(∀i,i<init.length→listed.getD i true=true)→(∀i,init.length≤i→i<ops.size→listed.getD i true=false)→Fr n F0 a→(∀(j:Nat) (o:Oper) (d:Nat) (v:Value),init[j]? =some o→o.dst=some d→listed.getD j false=true→(vs σ)[j]? =some v→a.tmps[d]? =some v)→X σ (fun j=>listed.getD j false) w→left listed ops.size≤fuel→wpAny P .any ops Q fuel listed a w:=by
   intro fuel listed σ a w hl hall hts hF hD hX hf
   have hb:∀i,i<init.length→listed.getD i false=true:=fun i hi=>by
    have h1:=hall i hi;have h2:i<listed.size:=by omega
    simp[h2] at h1⊢;exact h1
   have hleft:∀k,k≤ops.size→left listed k=k-init.length:=by
    intro k
    induction k with
    |zero=>intro _;show 0=0-init.length;omega
    |succ k ihk=>
     intro hk;unfold left;rw[ihk (by omega)];rcases Nat.lt_or_ge k init.length with h1|h1
     ·rw[if_pos (hall k h1)];omega
     ·rw[if_neg (by rw[hts k h1 (by omega)];simp)];omega
   refine nj hops (fun o ho=>(t0 o ho).1) ts fuel 0 listed a w hl (Nat.zero_le _) (fun i hi=>hall i (by omega)) (fun i hi hi2=>hts i (by omega) hi2) (by have:=hleft ops.size (Nat.le_refl _);omega) ?_;rw[List.drop_zero];refine hfin σ _ w hb hX a ⟨hF.size,hF.defers,fun t v ht=> ?_⟩;rcases oZ ht with ⟨j,o,h1,h2,h3⟩|h
   ·exact hD j o t v h1 h2 (hb j (List.getElem?_eq_some_iff.1 h1).1) h3
   ·exact hF.slot t v h
  intro fuel
  induction fuel with
  |zero=>
   intro listed σ a w hl hdc hts hF hD hX hf;have hall:=js (Nat.le_zero.1 hf);exact fin 0 listed σ a w hl (fun i hi=>hall i (by omega)) hts hF hD hX hf
  |succ fuel ih=>
   intro listed σ a w hl hdc hts hF hD hX hf
   by_cases hdone:∀i,i<init.length→listed.getD i true=true
   ·exact fin _ listed σ a w hl hdone hts hF hD hX hf
   have hex:∃i,i∈Region.ready .any ops listed:=by
    refine Classical.byContradiction fun hno=>hdone ?_
    have this:∀i,(∀j,j<i→j<init.length→listed.getD j true=true)→i<init.length→listed.getD i true=true:=fun i hlt hi=>by
     cases hb:listed.getD i true with
     |true=>rfl
     |false=>
      exfalso;refine hno ⟨i,bR.2 ⟨hb,init[i],by rw[hat i hi,List.getElem?_eq_getElem hi],fun x hx=> ?_⟩⟩;have hxi:=(c1 i _ (List.getElem?_eq_getElem hi)).1 x hx;have h1:=hlt x (by omega) (by omega);have h2:x<listed.size:=by omega
      simp[h2] at h1⊢;exact h1
    have all:∀m i,i≤m→i<init.length→listed.getD i true=true:=by
     intro m
     induction m using Nat.strongRecOn with
     |_ m ihm=>intro i him hi;exact this i (fun j hj hjl=>ihm j (by omega) j (Nat.le_refl _) hjl) hi
    exact fun i hi=>all i i (Nat.le_refl _) hi
   refine⟨fun hnil=>(by obtain⟨i,hi⟩:=hex;rw[hnil] at hi;cases hi),fun i hi=> ?_⟩
   ·obtain⟨g1,o,ho,g2⟩:=bR.1 hi
    have hio:=(Array.getElem?_eq_some_iff.1 ho).1
    have hil:i<init.length:=by
     rcases Nat.lt_or_ge i init.length with h|h
     ·exact h
     ·exfalso
      obtain⟨q,rfl⟩:∃q,i=init.length+q:=⟨i-init.length,by omega⟩;rw[hat2] at ho
      cases q with
      |zero=>
       refine hdone fun j hj=> ?_;have h1:=g2 j ((t0 o ho).2 j hj);have h2:j<listed.size:=by omega
       simp[h2] at h1⊢;exact h1
      |succ q=>
       have h1:=g2 _ (ts q o ho).2;have h2:=hts (init.length+1+q-1) (by omega) (by omega);rw[getD_both h2] at h1
       cases h1
    rw[hat i hil] at ho;have hSi:listed.getD i false=false:=getD_both g1
    have hst:=hstep i o ho σ (fun j=>listed.getD j false) w hSi g2 hdc hX a ⟨hF.size,hF.defers,fun t v ht=>by
     unfold iU at ht;rw[dN] at ht
     cases h1:look (cl (fun k=>aT (direct o) k) 0 init (vs σ)) t with
     |some x=>
      rw[h1] at ht;injection ht with ht
      subst ht;obtain⟨j,oj,e1,e2,e3,e4⟩:=dz h1;rw[Nat.zero_add] at e4;exact hD j oj t x e1 e2 (g2 j (ax e4)) e3
     |none=>
      rw[h1] at ht;simp only at ht;rw[dN] at ht
      cases h2:look F0 t with
      |some x=>
       rw[h2] at ht;injection ht with ht
       subst ht;exact hF.slot t x h2
      |none=>
       rw[h2] at ht;simp only at ht;obtain⟨j,oj,e1,e2,e3,e4⟩:=dz ht;rw[Nat.zero_add] at e4;exact hD j oj t v e1 e2 e4 e3⟩
    have hupd:(fun j=>(listed.setIfInBounds i true).getD j false)=fE (fun j=>listed.getD j false) i:=by
     funext j
     unfold fE
     by_cases e:i=j
     ·subst e;simp[eL false (show i<listed.size by omega)]
     ·rw[getD_set_ne false e,if_neg (fun h=>e h.symm)]
    have next:∀a' w',qd init n F0 vs X (fun j=>listed.getD j false) i a' w'→wpAny P .any ops Q fuel (listed.setIfInBounds i true) a' w':=by
     rintro a' w' ⟨σ',h1,h2,h3⟩;rw[←hupd] at h3;refine ih _ σ' a' w' (by simp[hl]) ?_ (fun j h4 h5=>by rw[getD_set_ne true (by omega)];exact hts j h4 h5) h1 (fun j oj d v e1 e2 e3 e4=>h2 j oj d v e1 e2 (by rw[←hupd];exact e3) e4) h3 ?_
     ·intro i2 o2 e1 e2 x hx
      simp only at e2⊢
      by_cases e:i=i2
      ·subst e
       rw[ho] at e1;injection e1 with e1
       subst e1;exact getD_set_true (g2 x hx)
      ·rw[getD_set_ne false e] at e2
       exact getD_set_true (hdc i2 o2 e1 e2 x hx)
     ·have:=kA (listed:=listed) (i:=i) (by omega) g1 ops.size
      rw[if_pos hio] at this;omega
    unfold wpOp;rw[hat i hil,ho];simp only;unfold wpList at hst
    by_cases hwant:Region.wanted o (yielded ops a.tmps)=true
    ·rw[if_pos hwant] at hst⊢
     rcases hst with hst|⟨h1,h2⟩
     ·exact .inl (Oper.wp_mono next (vC (Oper.wp_mono (fun a' w' h=>h) hst)))
     ·exact .inr ⟨h1,h2⟩
    ·rw[if_neg hwant] at hst⊢
     exact next _ _ hst
 refine key ops.size _ σ0 a _ (by simp) (fun i o _ h=> ?_) (fun i _ h=>by simp[h]) ha (fun j o d v _ _ h _=> ?_) ?_ ?_
 ·simp only[nx] at h;cases h
 ·rw[nx] at h;cases h
 ·have hrep:(fun j=>(Array.replicate ops.size false).getD j false)=fun _=>false:=funext fun i=>nx _ i
  rw[hrep];exact hw0
 ·have:∀k,left (Array.replicate ops.size false) k≤k:=by
   intro k
   induction k with
   |zero=>exact Nat.le_refl _
   |succ k ih=>unfold left;split<;>omega
  exact this _
end
end Go.Proofs.YtigoimhndlnhfaaGreat
namespace Go.Proofs.YtigoimhndlnhfaaGreat
open Go.RowKit
structure Kp (w w':World):Prop where
 size:w.heap.size≤w'.heap.size
 bL:∀k t cs,aE w k t cs→t≠71→t≠105→t≠219→aE w' k t cs
section
variable {w w' w'':World}
theorem Kp.refl (w:World):Kp w w:=⟨Nat.le_refl _,fun _ _ _ h _ _ _=>h⟩
theorem Kp.trans (a:Kp w w')(b:Kp w' w''):Kp w w'':=⟨Nat.le_trans a.size b.size,fun k t cs h h1 h2 h3=>b.bL k t cs (a.bL k t cs h h1 h2 h3) h1 h2 h3⟩
theorem Kp.step (a:Kp w w')(b:Below w'.heap.size w' w''):Kp w w'':=a.trans ⟨b.size,fun _ _ _ h _ _ _=>h.step b⟩
theorem Kp.fz {g:Nat}{cs:Array Value}(a:Kp w w')(k:aE w' g 219 cs)(b:Fz w'.heap.size g w' w''):Kp w w'':=a.trans ⟨b.size,fun i t cs h _ _ h3=>h.fz b fun e=>h3 (by
 subst e;have h1:w'.heap[i]? =_:=h;have h2:w'.heap[i]? =_:=k;rw[h1] at h2;injection h2 with h2
 injection h2)⟩
theorem Kp.put {g:Nat}{E:Prop}{T:TypeId}{cur cs:Array Value}(a:Kp w w')(k:aE w' g T cur)(p:gI w' w'' g T cs)(_e:E)(hT:(T=71∨T=105∨T=219)∨w.heap.size≤g:=by first|exact .inl (by decide)|exact .inr (by omega)):Kp w w'':=by
 refine⟨Nat.le_trans a.size (Nat.le_of_eq p.size.symm),fun i t cs h h1 h2 h3=> ?_⟩;rcases hT with hT|hg
 ·exact(a.bL i t cs h h1 h2 h3).put p ((a.bL i t cs h h1 h2 h3).ne k (by rcases hT with rfl|rfl|rfl<;>assumption))
 ·exact(a.bL i t cs h h1 h2 h3).put p (by have:=h.lt;omega)
theorem Kp.app {B n size:Nat}{e:TypeId}{v:Value}{xs:List Value}(a:Kp w w')(o:Own w' B e size v n xs)(ha:App w' w'' B v)(hT:e=71∨e=105:=by decide):Kp w w'':=
 a.trans ⟨ha.below.size,fun i t cs h h1 h2 _=>h.grown ha.grown (fun e'=>cA o.row h (by rcases hT with rfl|rfl<;>exact fun e=>by first|exact h1 e.symm|exact h2 e.symm) e'.symm)⟩
end
theorem Kp.an {w w':World}{k:Nat}{t:TypeId}{cs:Array Value}(a:Kp w w')(h:aE w k t cs)(h1:t≠71:=by decide)(h2:t≠105:=by decide)(h3:t≠219:=by decide):aE w' k t cs:=a.bL k t cs h h1 h2 h3
structure cW (W:World)(h gt:Nat)(es:List Ex)(ts:List Tm)(evs tvs:List Value)(vE vT:Value)(S:Nat→Prop):Prop where
 r6:evs.length=es.length
 s5:tvs.length=ts.length
 fo:Own W h 105 4 vE es.length (aC evs)
 iE:Own W h 71 4 vT ts.length (aC tvs)
 xG:∀(i:Nat) (e:Ex) (v:Value),es[i]? =some e→evs[i]? =some v→bX W S e v
 zz:∀(i:Nat) (t:Tm) (v:Value),ts[i]? =some t→tvs[i]? =some v→dC W S t v
 iD:∀b,S b→h≤b∧b<W.heap.size∧b≠gt∧vE.ownBlock≠some b∧vT.ownBlock≠some b
 xj:vE.ownBlock≠some gt
 zs:vT.ownBlock≠some gt
section
variable {W W':World} {h gt g:Nat} {es:List Ex} {ts:List Tm} {evs tvs:List Value} {vE vT:Value} {S:Nat→Prop}
theorem Own.eO {B n size:Nat}{e:TypeId}{v:Value}{xs:List Value}(o:Own W B e size v n xs)(hs:W.heap.size≤W'.heap.size)(hb:∀b,v.ownBlock=some b→W'.heap[b]? =W.heap[b]?):Own W' B e size v n xs:=by
 obtain⟨h1,⟨h2,h3⟩|⟨g,cap,cur,rfl,e2,e3,e4⟩⟩:=o.row
 ·exact⟨h1, .inl ⟨h2,h3⟩⟩
 ·exact⟨h1, .inr ⟨g,cap,cur,rfl,e2,(hb g rfl).trans e3,e4⟩⟩
theorem cW.bL (a:cW W h gt es ts evs tvs vE vT S)(hs:W.heap.size≤W'.heap.size)(hb:∀b,h≤b→b<W.heap.size→b≠gt→W'.heap[b]? =W.heap[b]?):cW W' h gt es ts evs tvs vE vT S:=by
 have hS:∀p:Addr,S p.block→W'.cell? p=W.cell? p:=fun p hp=>by
  obtain⟨b1,b2,b3,-,-⟩:=a.iD _ hp;exact World.cell?_of_block (hb _ b1 b2 b3)
 refine⟨a.r6,a.s5,a.fo.eO hs fun b e=> ?_,a.iE.eO hs fun b e=> ?_,fun i e v h1 h2=>(a.xG i e v h1 h2).mono (fun _ h=>h) hS,fun i e v h1 h2=>(a.zz i e v h1 h2).mono (fun _ h=>h) hS,fun b hb=> ?_,a.xj,a.zs⟩
 ·obtain⟨h1,h2⟩:=a.fo.aQ b e
  exact hb b h1 h2 fun e'=>a.xj (by rw[e,e'])
 ·obtain⟨h1,h2⟩:=a.iE.aQ b e
  exact hb b h1 h2 fun e'=>a.zs (by rw[e,e'])
 ·obtain⟨b1,b2,b3,b4,b5⟩:=a.iD b hb
  exact⟨b1,by omega,b3,b4,b5⟩
theorem cW.fz (a:cW W h gt es ts evs tvs vE vT S)(f:Fz W.heap.size g W W')(hg:g<h):cW W' h gt es ts evs tvs vE vT S:=a.bL f.size fun b h1 h2 _=>f.block b h2 (by omega)
theorem cW.step (a:cW W h gt es ts evs tvs vE vT S)(f:Below W.heap.size W W'):cW W' h gt es ts evs tvs vE vT S:=a.bL f.size fun b _ h2 _=>f.block b h2
theorem cW.put {T:TypeId}{cur cs:Array Value}{B:Nat}(a:cW W h gt es ts evs tvs vE vT S)(_k:aE W gt T cur)(p:gI W W' gt T cs)(_e:B≤gt):cW W' h gt es ts evs tvs vE vT S:=a.bL (Nat.le_of_eq p.size.symm) fun b _ h2 h3=>p.grown.block b h2 fun e=>h3 (by injection e)
end
theorem Own.mo {w:World}{B s n:Nat}{e:TypeId}{v:Value}{xs ys:List Value}(o:Own w B e s v (n+1) (xs++ys))(hl:xs.length=n*s):∃g cap cur,v= .slice (some ⟨g,0,none⟩) (n+1) cap∧B≤g∧g<w.heap.size∧aE w g e cur∧n*s+s≤cur.size∧
  ∀(w':World) (cs:Array Value),cs.size=s→gI w w' g e (cur.toList.take (n*s)++(cs.toList++cur.toList.drop (n*s+cs.size))).toArray→Own w' B e s v (n+1) (xs++cs.toList):=by
 obtain⟨h1,⟨-,h3⟩|⟨g,cap,cur,rfl,e2,e3,e4,e5,e6,e7⟩⟩:=o.row
 ·omega
 ·have hk:aE w g e cur:=e3
  have hm:(n+1)*s≤cap*s:=Nat.mul_le_mul_right s e4;have hns:(n+1)*s=n*s+s:=Nat.succ_mul n s;refine⟨g,cap,cur,rfl,e2,hk.lt,hk,by omega,fun w' cs hcs p=>⟨?_, .inr ⟨g,cap,_,rfl,e2,p.an,e4,e5,?_,?_⟩⟩⟩
  ·have:cs.toList.length=s:=by simpa using hcs
   rw[List.length_append,hl,this,hns]
  ·have h9:cur.toList.length=cap*s:=by simpa using e6
   have:cs.toList.length=s:=by simpa using hcs
   simp only[List.size_toArray,List.length_append,List.length_take,List.length_drop,this,h9,hcs];omega
  ·have h9:cur.toList.length=cap*s:=by simpa using e6
   have h10:cs.toList.length=s:=by simpa using hcs
   have htk:cur.toList.take (n*s)=xs:=by
    have:=congrArg (List.take (n*s)) e7;rw[List.take_take,Nat.min_eq_left (by omega),←hl,List.take_left' rfl] at this;rw[←hl];exact this
   rw[htk,←List.append_assoc,hns,List.take_left' (by rw[List.length_append,hl,h10])]
theorem Own.two {W:World}{B B' n m s s':Nat}{e e':TypeId}{v u:Value}{xs ys:List Value}(o:Own W B e s v n xs)(o':Own W B' e' s' u m ys)(hne:e≠e'):B4 v u:=fun b h1 h2=>by
 obtain⟨-,⟨rfl,-⟩|⟨g,cap,cur,rfl,-,e3,-⟩⟩:=o.row
 ·cases h1
 obtain⟨-,⟨rfl,-⟩|⟨g',cap',cur',rfl,-,e3',-⟩⟩:=o'.row
 ·cases h2
 injection h1 with h1
 injection h2 with h2
 have h1:g=b:=h1;have h2:g'=b:=h2;subst h1;subst h2;rw[e3] at e3';injection e3' with e3'
 injection e3' with _ e3'
 exact hne e3'
theorem cW.Af {W W':World}{h gt:Nat}{es:List Ex}{ts:List Tm}{evs tvs:List Value}{vE vT vE':Value}{S S':Nat→Prop}(a:cW W h gt es ts evs tvs vE vT S){x:Ex}{v:Value}(hr:bX W S' x v)(hS':∀b,S' b→h≤b∧b<W.heap.size∧b≠gt∧vE.ownBlock≠some b∧vT.ownBlock≠some b)
  (o:Own W' h 105 4 vE' (es.length+1) (aC evs++v.cells.toList)) (hs:W.heap.size≤W'.heap.size) (hb:∀b,h≤b→b<W.heap.size→b≠gt→vE.ownBlock≠some b→W'.heap[b]? =W.heap[b]?) (hv':vE'.ownBlock=vE.ownBlock∨∃N,vE'.ownBlock=some N∧W.heap.size≤N) (hgt:gt<W.heap.size):
  cW W' h gt (es++[x]) ts (evs++[v]) tvs vE' vT (fun b=>S b∨S' b):=by
 have htwo:B4 vE vT:=a.fo.two a.iE (by decide);have hS:∀b,(S b∨S' b)→h≤b∧b<W.heap.size∧b≠gt∧vE.ownBlock≠some b∧vT.ownBlock≠some b:=fun b hb=>hb.elim (a.iD b) (hS' b)
 have hc:∀p:Addr,(S p.block∨S' p.block)→W'.cell? p=W.cell? p:=fun p hp=>by
  obtain⟨b1,b2,b3,b4,-⟩:=hS _ hp;exact World.cell?_of_block (hb _ b1 b2 b3 b4)
 have hneE:∀b,b<W.heap.size→vE.ownBlock≠some b→vE'.ownBlock≠some b:=fun b h1 h2 h3=>by
  rcases hv' with e|⟨N,e,hN⟩
  ·exact h2 (by rw[←e,h3])
  ·rw[e] at h3;injection h3 with h3;omega
 refine⟨by simp[a.r6],a.s5,?_,a.iE.eO hs fun b e=> ?_,fun i e u h1 h2=> ?_,fun i t u h1 h2=>(a.zz i t u h1 h2).mono (fun _ h=> .inl h) (fun p hp=>hc p (.inl hp)),fun b hb'=> ?_,hneE gt hgt a.xj,a.zs⟩
 ·have hf:aC (evs++[v])=aC evs++v.cells.toList:=by rw[ei];simp[aC]
  rw[hf,List.length_append];exact o
 ·obtain⟨h1,h2⟩:=a.iE.aQ b e
  exact hb b h1 h2 (fun e'=>a.zs (by rw[e,e'])) (fun e'=>htwo b e' e)
 ·rcases Nat.lt_or_ge i es.length with hi|hi
  ·rw[List.getElem?_append_left hi] at h1
   rw[List.getElem?_append_left (by rw[a.r6];exact hi)] at h2;exact(a.xG i e u h1 h2).mono (fun _ h=> .inl h) (fun p hp=>hc p (.inl hp))
  ·rw[List.getElem?_append_right hi] at h1
   rw[List.getElem?_append_right (by rw[a.r6];exact hi),a.r6] at h2
   have h0:i-es.length=0:=by
    have:=(List.getElem?_eq_some_iff.1 h1).1;simp at this;exact this
   rw[h0] at h1 h2;injection h1 with h1
   injection h2 with h2
   subst h1 h2;exact hr.mono (fun _ h=> .inr h) (fun p hp=>hc p (.inr hp))
 ·obtain⟨b1,b2,b3,b4,b5⟩:=hS b hb'
  exact⟨b1,by omega,b3,hneE b b2 b4,b5⟩
theorem cW.Ba {W W':World}{h gt:Nat}{es:List Ex}{ts:List Tm}{evs tvs:List Value}{vE vT vT':Value}{S S':Nat→Prop}(a:cW W h gt es ts evs tvs vE vT S){x:Tm}{v:Value}(hr:dC W S' x v)(hS':∀b,S' b→h≤b∧b<W.heap.size∧b≠gt∧vE.ownBlock≠some b∧vT.ownBlock≠some b)
  (o:Own W' h 71 4 vT' (ts.length+1) (aC tvs++v.cells.toList)) (hs:W.heap.size≤W'.heap.size) (hb:∀b,h≤b→b<W.heap.size→b≠gt→vT.ownBlock≠some b→W'.heap[b]? =W.heap[b]?) (hv':vT'.ownBlock=vT.ownBlock∨∃N,vT'.ownBlock=some N∧W.heap.size≤N) (hgt:gt<W.heap.size):
  cW W' h gt es (ts++[x]) evs (tvs++[v]) vE vT' (fun b=>S b∨S' b):=by
 have htwo:B4 vE vT:=a.fo.two a.iE (by decide);have hS:∀b,(S b∨S' b)→h≤b∧b<W.heap.size∧b≠gt∧vE.ownBlock≠some b∧vT.ownBlock≠some b:=fun b hb=>hb.elim (a.iD b) (hS' b)
 have hc:∀p:Addr,(S p.block∨S' p.block)→W'.cell? p=W.cell? p:=fun p hp=>by
  obtain⟨b1,b2,b3,-,b4⟩:=hS _ hp;exact World.cell?_of_block (hb _ b1 b2 b3 b4)
 have hneT:∀b,b<W.heap.size→vT.ownBlock≠some b→vT'.ownBlock≠some b:=fun b h1 h2 h3=>by
  rcases hv' with e|⟨N,e,hN⟩
  ·exact h2 (by rw[←e,h3])
  ·rw[e] at h3;injection h3 with h3;omega
 refine⟨a.r6,by simp[a.s5],a.fo.eO hs fun b e=> ?_,?_,fun i e u h1 h2=>(a.xG i e u h1 h2).mono (fun _ h=> .inl h) (fun p hp=>hc p (.inl hp)),fun i t u h1 h2=> ?_,fun b hb'=> ?_,a.xj,hneT gt hgt a.zs⟩
 ·obtain⟨h1,h2⟩:=a.fo.aQ b e
  exact hb b h1 h2 (fun e'=>a.xj (by rw[e,e'])) (fun e'=>htwo b e e')
 ·have hf:aC (tvs++[v])=aC tvs++v.cells.toList:=by rw[ei];simp[aC]
  rw[hf,List.length_append];exact o
 ·rcases Nat.lt_or_ge i ts.length with hi|hi
  ·rw[List.getElem?_append_left hi] at h1
   rw[List.getElem?_append_left (by rw[a.s5];exact hi)] at h2;exact(a.zz i t u h1 h2).mono (fun _ h=> .inl h) (fun p hp=>hc p (.inl hp))
  ·rw[List.getElem?_append_right hi] at h1
   rw[List.getElem?_append_right (by rw[a.s5];exact hi),a.s5] at h2
   have h0:i-ts.length=0:=by
    have:=(List.getElem?_eq_some_iff.1 h1).1;simp at this;exact this
   rw[h0] at h1 h2;injection h1 with h1
   injection h2 with h2
   subst h1 h2;exact hr.mono (fun _ h=> .inr h) (fun p hp=>hc p (.inr hp))
 ·obtain⟨b1,b2,b3,b4,b5⟩:=hS b hb'
  exact⟨b1,by omega,b3,b4,hneT b b2 b5⟩
def yl (W:World)(x:Ex)(v:Value)(W':World):Prop:=∃S:Nat→Prop,bX W' S x v∧∀b,S b→W.heap.size≤b∧b<W'.heap.size
def BF (W:World)(x:Tm)(v:Value)(W':World):Prop:=∃S:Nat→Prop,dC W' S x v∧∀b,S b→W.heap.size≤b∧b<W'.heap.size
structure XA {α:Type}(jQ:World→(Nat→Prop)→α→Value→Prop)(K:Ctx)(w1:World)(p d:Nat)(r:Rs α)(done made:Bool)(S':Nat→Prop)(v:Value)(g7:Nat)(zt:TypeId)(zc:Array Value)(w:World):Prop where
 fz:Fz w1.heap.size K.g w1 w
 pre:done=false→PW K w p d false
 post:done=true→∃x p',r= .ok x p'∧PW K w p' d false∧jQ w S' x v∧∀b,S' b→w1.heap.size≤b∧b<w.heap.size
 new:made=true→w1.heap.size≤g7∧aE w g7 zt zc∧(done=true→¬S' g7)
theorem aE.uL {w w':World}{k g:Nat}{T T':TypeId}{cs cs':Array Value}{h:Nat}(b:aE w k T cs)(q:aE w g T' cs')(a:Fz h g w w')(hh:w.heap.size≤h)(hne:T≠T':=by decide):aE w' k T cs:=b.fz (a.less hh) (b.ne q hne)
theorem dC.bt {w:World}{S:Nat→Prop}{t:Tm}{v:Value}(h:dC w S t v):v.cells.size=4∧∀u∈v.cells.toList,u.oneCell'=true:=by
 obtain⟨A,c,A',c',rfl⟩:=h.form;refine⟨rfl,fun u hu=> ?_⟩;simp[Value.cells] at hu;rcases hu with rfl|rfl|rfl|rfl<;>rfl
theorem bX.bt {w:World}{S:Nat→Prop}{t:Ex}{v:Value}(h:bX w S t v):v.cells.size=4∧∀u∈v.cells.toList,u.oneCell'=true:=by
 obtain⟨A,c,rfl⟩:=h.form;refine⟨rfl,fun u hu=> ?_⟩;simp[Value.cells] at hu;rcases hu with rfl|rfl|rfl|rfl<;>rfl
theorem ly:br Tryz.prog 4=some (some (.bool false)):=by kernel_rfl
theorem fS:∀ {l:List Value},(∀u∈l,u.oneCell'=true)→bt l
 | [],_=>trivial
 |v::r,h=>⟨h v List.mem_cons_self,fS fun u hu=>h u (List.mem_cons_of_mem _ hu)⟩
theorem xb (K:Ctx)(hK:K.Ok)(h0 gt b0 b1 d p:Nat)(op:Int)(nm:List Nat)(es:List Ex)(ts:List Tm)(evs tvs:List Value)(vE vT:Value)(S0:Nat→Prop)(T:Nat→Nat→Rs Tm)(w:World)(pw:PW K w p d false)(hg0:K.g<h0)(hgt:h0≤gt)(hh:h0≤w.heap.size)
  (kt:aE w gt 71 #[.int .i64 op, .string (strOf nm),vE,vT]) (kb0:aE w b0 227 #[.pointer (some ⟨gt,0,none⟩)]) (kb1:aE w b1 189 #[.pointer (some ⟨K.g,0,none⟩)]) (aq:cW w h0 gt es ts evs tvs vE vT S0) (hl:ts.length≤10)
  (hc:∀W,PW K W p d false→Fz w.heap.size K.g w W→Calls Tryz.prog 128 #[.pointer (some ⟨K.g,0,none⟩)] W (PR K W d (T p d) (BF W))) (hne:T p d≠ .out):
  Calls Tryz.prog 212 #[.pointer (some ⟨b0,0,none⟩), .pointer (some ⟨b1,0,none⟩)] w (qM K h0 w d (T p d) fun x _ W'=>Kp w W'∧∃evs tvs vE vT S,aE W' gt 71 #[.int .i64 op, .string (strOf nm),vE,vT]∧cW W' h0 gt es (ts++[x]) evs tvs vE vT S):=by
 have hle:=hK.le;have hgg:K.g<w.heap.size:=pw.an.lt;have hgtl:gt<w.heap.size:=kt.lt;obtain⟨AE,cE,rfl,-⟩:=aq.fo.reads;obtain⟨AT,cT,rfl,-⟩:=aq.iE.reads;refine Zs 27 Tryz.func212 ?_;refine Cd.seq ?_;refine Cd.lH (σT:=Nat × Bool) 3 (by kernel_rfl) rfl rfl (fun σ=>[.pointer (some ⟨σ.1,0,none⟩),undef,undef]) (fun σ S W=>Below w.heap.size w W∧(S 0=true→w.heap.size≤σ.1∧aE W σ.1 4 #[.bool σ.2])) ((0,false)) ?_ ?_ ?_
 ·intro w0 hb0 hs0
  exact⟨hb0,fun h=>by cases h⟩
 ·intro k o ho
  match k,ho with
  |0,ho=>
   injection ho with ho
   subst ho;intro σ S w hS hpre hdc hX;refine Zl ly ?_;intro g2 w' n2;refine Seq.nil ?_;exact ab.aG (σ:=σ) (σ':=(g2,false)) rfl rfl rfl hpre rfl (fun j hj=>by cases j with|zero=>rw[hS] at hj;cases hj|succ j=>rfl) ⟨hX.1.trans (n2.below.mono hX.1.size),fun _=>⟨Nat.le_trans hX.1.size n2.ge,n2.an⟩⟩
  |1,ho=>
   injection ho with ho
   subst ho;intro σ S w hS hpre hdc hX;have h2:=hX.2 (hpre 0 (ax rfl));refine Zq h2.2 ?_;intro w' pq;refine Seq.nil ?_;exact ab.jt (σ:=σ) (σ':=(σ.1,true)) rfl rfl rfl (fun _ _=>rfl) ⟨pq.gH hX.1 h2.1 h2.2.lt,fun _=>⟨h2.1,pq.an⟩⟩
  |2,ho=>
   injection ho with ho
   subst ho;intro σ S w hS hpre hdc hX;have h2:=hX.2 (hpre 0 (ax rfl));refine Zq h2.2 ?_;intro w' pq;refine Seq.nil ?_;exact ab.jt (σ:=σ) (σ':=(σ.1,false)) rfl rfl rfl (fun _ _=>rfl) ⟨pq.gH hX.1 h2.1 h2.2.lt,fun _=>⟨h2.1,pq.an⟩⟩
  |k+3,ho=>simp at ho
 rintro⟨g2,b2⟩ S w2 hS ⟨bel2,hX⟩;obtain⟨e2,k2⟩:=hX (hS 0 (by decide));dsimp only at e2 k2;have pw2:=pw.step hle bel2;have kt2:=kt.step bel2;have kb02:=kb0.step bel2;have kb12:=kb1.step bel2;have aq2:=aq.step bel2;have hs2:=bel2.size;have fz2:Fz w.heap.size K.g w w2:=Fz.of bel2;have kp2:Kp w w2:=(Kp.refl w).step bel2;have hh2:h0≤w2.heap.size:=by omega
 clear pw kt kb0 kb1 aq hX;have hcall:∀W,PW K W p d false→Fz w2.heap.size K.g w2 W→Calls Tryz.prog 128 #[.pointer (some ⟨K.g,0,none⟩)] W (PR K W d (T p d) (BF W)):=fun W h1 h2=>hc W h1 (fz2.trans (h2.less hs2));refine ZL Tryz.underlying4 k2 ?_;refine bk 0 1 3 (Zt ?_);refine Cd.cond rfl (fun hcn=> ?_) (fun hcn=> ?_)
 ·skip
  refine Cd.seq ?_;refine Cd.lH (σT:=Value × (Nat→Prop) × Nat) 8 (by kernel_rfl) rfl rfl (fun σ=>[.pointer (some ⟨gt,0,none⟩), .pointer (some ⟨gt,0,none⟩), .pointer (some ⟨gt,3,none⟩), .slice AT ts.length cT, .pointer (some ⟨K.g,0,none⟩),σ.1, .int .i64 (ts.length:Int), .slice (some ⟨σ.2.2,0,none⟩) 1 1]) (fun σ S W=>XA dC K w2 p d (T p d) (S 5) (S 7) σ.2.1 σ.1 σ.2.2 71 #[.int .i64 0, .string {data:= #[]}, .slice none 0 0, .slice none 0 0] W) ((undef,fun _=>False,0)) ?_ ?_ ?_
  ·intro w0 hb0 hs0
   exact⟨Fz.of hb0,fun _=>pw2.step hle hb0,fun h=>(by cases h),fun h=>(by cases h)⟩
  ·intro k o ho
   match k,ho with
   |0,ho=>
    injection ho with ho
    subst ho;intro σ S w hS hpre hdc hX;refine Seq.val (aa.ak (g:=b0) (i:=0) rfl rfl Tryz.underlying227 rfl (kb02.uL pw2.an hX.fz (Nat.le_refl _)) rfl) rfl rfl rfl (Seq.nil ?_);exact ab.aG rfl rfl rfl hpre rfl (fun _ _=>rfl) hX
   |1,ho=>
    injection ho with ho
    subst ho;intro σ S w hS hpre hdc hX;refine Seq.val (aa.nilCheck rfl rfl) rfl rfl rfl (Seq.nil ?_);exact ab.aG rfl rfl rfl hpre rfl (fun _ _=>rfl) hX
   |2,ho=>
    injection ho with ho
    subst ho;intro σ S w hS hpre hdc hX;refine Seq.val (aa.eX 3 rfl rfl Tryz.underlying71 rfl (by kernel_rfl)) rfl rfl rfl (Seq.nil ?_);exact ab.aG rfl rfl rfl hpre rfl (fun _ _=>rfl) hX
   |3,ho=>
    injection ho with ho
    subst ho;intro σ S w hS hpre hdc hX;refine Seq.val (aa.ak (g:=gt) (i:=3) rfl rfl Tryz.underlying69 rfl (kt2.fz hX.fz (by omega)) rfl) rfl rfl rfl (Seq.nil ?_);exact ab.aG rfl rfl rfl hpre rfl (fun _ _=>rfl) hX
   |4,ho=>
    injection ho with ho
    subst ho;intro σ S w hS hpre hdc hX;refine Seq.val (aa.ak (g:=b1) (i:=0) rfl rfl Tryz.underlying189 rfl (kb12.uL pw2.an hX.fz (Nat.le_refl _)) rfl) rfl rfl rfl (Seq.nil ?_);exact ab.aG rfl rfl rfl hpre rfl (fun _ _=>rfl) hX
   |5,ho=>
    injection ho with ho
    subst ho;intro σ S w hS hpre hdc hX;have hcl:=hcall w (hX.pre hS) hX.fz;rcases Rs.bZ hne with ⟨q,ov,hr⟩|⟨x,q,hr⟩
    ·rw[hr] at hcl
     refine Seq.bJ (Ze Tryz.func128) rfl hcl ?_;rintro e w6 ⟨hf,rfl,d6,hp6⟩;refine⟨_,rfl,fun a ha=>⟨ha.defers,?_⟩⟩;rw[hr];exact⟨(fz2.trans ((hX.fz.call hf).less hs2)).less hh,rfl,d6,hp6⟩
    ·rw[hr] at hcl
     refine Zc (Ze Tryz.func128) hcl ?_;rintro e w6 ⟨hf,v6,rfl,hp6,S6,hr6,hb6⟩;refine⟨_,rfl,Seq.nil ?_⟩;have hsz:=hX.fz.size;refine ab.aG (σ:=σ) (σ':=(v6,S6,σ.2.2)) rfl rfl rfl hpre rfl (fun j hj=> ?_) ⟨hX.fz.call hf,(fun h=>by cases h),fun _=>⟨x,q,hr,hp6,hr6,fun b hb=>⟨by have:=(hb6 b hb).1;omega,(hb6 b hb).2⟩⟩,fun hm=> ?_⟩
     ·match j,hj with
      |0,_=>rfl
      |1,_=>rfl
      |2,_=>rfl
      |3,_=>rfl
      |4,_=>rfl
      |5,hj=>rw[hS] at hj;cases hj
      |6,_=>rfl
      |7,_=>rfl
      |j+8,_=>rfl
     ·obtain⟨m1,m2,-⟩:=hX.new hm
      exact⟨m1,m2.fz hf (by omega),fun _ hb=>Nat.lt_irrefl _ (Nat.lt_of_lt_of_le m2.lt (hb6 _ hb).1)⟩
   |6,ho=>
    injection ho with ho
    subst ho;intro σ S w hS hpre hdc hX;refine Seq.val (aa.len rfl rfl Tryz.underlying69) rfl rfl rfl (Seq.nil ?_);exact ab.aG rfl rfl rfl hpre rfl (fun _ _=>rfl) hX
   |7,ho=>
    injection ho with ho
    subst ho;intro σ S w hS hpre hdc hX;refine Seq.slice (vs:=[.agg #[.int .i64 0, .string {data:= #[]}, .slice none 0 0, .slice none 0 0]]) (s:=4) rfl rfl rfl Tryz.underlying69 (by kernel_rfl) aK (by omega) (by omega) ⟨rfl,trivial⟩ rfl rfl rfl ?_;intro g7 w' n7;refine Seq.nil ?_;have hsz:=hX.fz.size;refine ab.aG (σ:=σ) (σ':=(σ.1,σ.2.1,g7)) rfl rfl rfl hpre rfl (fun j hj=> ?_) ⟨hX.fz.step n7.below,fun h=>(hX.pre h).step hle n7.below,fun h=> ?_,fun _=>⟨Nat.le_trans hsz n7.ge,n7.an,fun h hb=> ?_⟩⟩
    ·match j,hj with
     |0,_=>rfl
     |1,_=>rfl
     |2,_=>rfl
     |3,_=>rfl
     |4,_=>rfl
     |5,_=>rfl
     |6,_=>rfl
     |7,hj=>rw[hS] at hj;cases hj
     |j+8,_=>rfl
    ·obtain⟨x,q,q1,q2,q3,q4⟩:=hX.post h
     exact⟨x,q,q1,q2.step hle n7.below,q3.mono (fun _ h=>h) (fun a ha=>n7.below.cell (q4 _ ha).2),fun b hb=>⟨(q4 b hb).1,Nat.lt_of_lt_of_le (q4 b hb).2 n7.below.size⟩⟩
    ·obtain⟨x,q,q1,q2,q3,q4⟩:=hX.post h
     exact Nat.lt_irrefl _ (Nat.lt_of_lt_of_le (q4 _ hb).2 n7.ge)
   |k+8,ho=>simp at ho
  ·rintro⟨v5,S5,g7⟩ S w3 hS hX
   obtain⟨x,q,hr,pw3,hrep,haway⟩:=hX.post (hS 5 (by decide));obtain⟨e7,k7,hn7⟩:=hX.new (hS 7 (by decide));dsimp only at hrep haway e7 k7;have fz3:=hX.fz;clear hX;have hs3:=fz3.size;have k90:=kt2.fz fz3 (by omega);have aq3:=aq2.fz fz3 hg0;have kp3:Kp w w3:=kp2.fz pw2.an fz3;have e90:h0≤gt:=hgt;have bel:Fz h0 K.g w w3:=(fz2.trans (fz3.less hs2)).less hh;have hh3:h0≤w3.heap.size:=by omega
   have hown:=aq3.iE;have hones:=hrep.bt;rw[hr];refine Seq.hZ rfl rfl rfl Tryz.underlying69 (by kernel_rfl) aK rfl (by decide) (b:=72) (by kernel_rfl) hown (Reads.an (size:=4) k7 1 rfl) (by intro z hz;simp at hz;rcases hz with rfl|rfl|rfl|rfl<;>rfl) hh3 (by simp only[maxLen];omega) (by omega) rfl rfl rfl ?_;intro v' w4 hown' happ hv';obtain⟨AV,cV,hvV,-⟩:=hown'.reads;subst hvV;have k90':=k90.grown happ.grown (fun e=>aq3.zs e.symm);have pw4:PW K w4 q d false:=⟨pw3.an.grown happ.grown (fun e=>by have:=hown.aQ _ e.symm;omega),pw3.rd.below (happ.below.mono (by omega)),pw3.cj,pw3.cD⟩;have kp4:=kp3.app hown happ;have bel4:Fz h0 K.g w w4:=bel.trans (Fz.of happ.below);have hs4:=happ.below.size;have hgrow:=happ.grown;clear bel k90 kp3;have bel:=bel4;have k90:=k90';have kp:=kp4;have pwk:=pw4.an;refine Zv (aa.nilCheck rfl rfl) ?_;refine Zf 3 Tryz.underlying71 ?_;refine Zq k90 ?_;intro w1 pw1;replace bel:=bel.put k90 pw1 e90;replace kp:=kp.put k90 pw1 e90;replace k90:=pw1.an;refine aV 0 1 3 9 10 12 (et ?_);have hb5:∀b,b<w3.heap.size→b≠gt→(Value.slice AT ts.length cT).ownBlock≠some b→w1.heap[b]? =w3.heap[b]? :=fun b h1 h2 h3=>(pw1.grown.block b (by omega) (fun e=>h2 (by injection e))).trans (hgrow.block b h1 (fun e=>h3 e.symm))
   have hvown:∀b,(Value.slice AV (ts.length+1) cV).ownBlock=some b→b≠gt:=fun b e1 e2=>by
    rcases hv' with e|e
    ·exact aq3.zs (by rw[←e,e1,e2])
    ·rw[e] at e1;injection e1 with e1;omega
   have hown5:Own w1 h0 71 4 (.slice AV (ts.length+1) cV) (ts.length+1) (aC tvs++_):=hown'.eO (Nat.le_of_eq pw1.size.symm) fun b e=>pw1.grown.block b ((hown'.aQ b e).2) (fun e'=>hvown b e (by injection e'));have hlv:(aC tvs).length=ts.length*4:=hown.row.1;obtain⟨gv,cap,cur,hvv,hgv,hgvl,kv,hfit,hset⟩:=hown5.mo hlv;have hgne:gv≠gt:=hvown gv (by rw[hvv];rfl);obtain⟨rfl,rfl⟩:AV=some ⟨gv,0,none⟩∧cV=cap:=by injection hvv with h1 _ h3;exact⟨h1,h3⟩
   have haddr:(⟨gv,0,none⟩:Addr).add (ts.length*4)=⟨gv,ts.length*4,none⟩:=by unfold Addr.add;split<;>simp_all
   refine Zv (aa.aU rfl rfl rfl Tryz.underlying69 (s:=4) (by kernel_rfl) (j:=ts.length) rfl (by omega)) ?_;rw[haddr];refine Seq.ij rfl rfl rfl rfl (m:=4) (by kernel_rfl) hones.1 (fS hones.2) kv (by rw[hones.1];exact hfit) rfl rfl ?_;intro w6 p6;have hown6:=hset w6 v5.cells hones.1 p6;have kp6:Kp w w6:=kp.put kv p6 hgv;have bel6:Fz h0 K.g w w6:=bel.put kv p6 hgv;have k906:=k90.put p6 (fun e=>hgne e.symm);have pw6:PW K w6 q d false:=⟨(pwk.put pw1 (by omega)).put p6 (by omega),(pw4.rd.below (pw1.below (by omega) k90'.lt)).below (p6.below (by omega) hgvl),pw3.cj,pw3.cD⟩;have hsl:=p6.size;have hsl2:=pw1.size
   have aq6:=aq3.Ba hrep (fun b hb=>⟨by have:=(haway b hb).1;omega,(haway b hb).2,by have:=(haway b hb).1;omega,fun e=>by have:=(aq2.fo.aQ b e).2;have:=(haway b hb).1;omega,fun e=>by have:=(aq2.iE.aQ b e).2;have:=(haway b hb).1;omega⟩) hown6 (by omega)
    (fun b _ h2 h3 h4=>(p6.grown.block b (by omega) (fun e=>by
     injection e with e
     rcases hv' with e'|e'
     ·exact h4 (by rw[←e',e];rfl)
     ·injection e' with e'
      have e':gv=w3.heap.size:=e';omega)).trans (hb5 b h2 h3 h4))
    (hv'.elim .inl fun e=> .inr ⟨_,e,Nat.le_refl _⟩) (by omega)
   refine aV 0 1 3 9 10 12 ?_;refine ab.du rfl (.inr rfl) ?_;exact⟨bel6,_,rfl,pw6,kp6,_,_,_,_,_,k906,aq6⟩
 ·skip
  refine Cd.lH (σT:=Value × (Nat→Prop) × Nat × Value) 9 (by kernel_rfl) rfl rfl (fun σ=>[.pointer (some ⟨gt,0,none⟩), .pointer (some ⟨gt,0,none⟩), .pointer (some ⟨gt,0,none⟩), .pointer (some ⟨gt,3,none⟩), .slice AT ts.length cT, .pointer (some ⟨K.g,0,none⟩),σ.1, .slice (some ⟨σ.2.2.1,0,none⟩) 1 1,σ.2.2.2]) (fun σ S W=>(S 8=false→XA dC K w2 p d (T p d) (S 6) (S 7) σ.2.1 σ.1 σ.2.2.1 71 σ.1.cells W)∧(S 8=true→∃x q,T p d= .ok x q∧Kp w2 W∧Fz h0 K.g w2 W∧PW K W q d false∧aE W gt 71 #[.int .i64 op, .string (strOf nm), .slice AE es.length cE, .slice AT ts.length cT]∧∃S',cW W h0 gt es (ts++[x]) evs (tvs++[σ.1]) (.slice AE es.length cE) σ.2.2.2 S')) ((undef,fun _=>False,0,undef)) ?_ ?_ ?_
  ·intro w0 hb0 hs0
   exact⟨fun _=>⟨Fz.of hb0,fun _=>pw2.step hle hb0,fun h=>(by cases h),fun h=>(by cases h)⟩,fun h=>(by cases h)⟩
  ·intro k o ho
   match k,ho with
   |0,ho=>
    injection ho with ho
    subst ho;intro σ S w hS hpre hdc hX
    have hb:aE w b0 227 #[.pointer (some ⟨gt,0,none⟩)]:=by
     cases h8:S 8 with
     |false=>exact kb02.uL pw2.an (hX.1 h8).fz (Nat.le_refl _)
     |true=>obtain⟨x,q,-,hkp,-⟩:=hX.2 h8;exact hkp.an kb02
    refine Seq.val (aa.ak (g:=b0) (i:=0) rfl rfl Tryz.underlying227 rfl hb rfl) rfl rfl rfl (Seq.nil ?_);exact ab.aG rfl rfl rfl hpre rfl (fun _ _=>rfl) hX
   |1,ho=>
    injection ho with ho
    subst ho;intro σ S w hS hpre hdc hX
    have hb:aE w b0 227 #[.pointer (some ⟨gt,0,none⟩)]:=by
     cases h8:S 8 with
     |false=>exact kb02.uL pw2.an (hX.1 h8).fz (Nat.le_refl _)
     |true=>obtain⟨x,q,-,hkp,-⟩:=hX.2 h8;exact hkp.an kb02
    refine Seq.val (aa.ak (g:=b0) (i:=0) rfl rfl Tryz.underlying227 rfl hb rfl) rfl rfl rfl (Seq.nil ?_);exact ab.aG rfl rfl rfl hpre rfl (fun _ _=>rfl) hX
   |2,ho=>
    injection ho with ho
    subst ho;intro σ S w hS hpre hdc hX;refine Seq.val (aa.nilCheck rfl rfl) rfl rfl rfl (Seq.nil ?_);exact ab.aG rfl rfl rfl hpre rfl (fun _ _=>rfl) hX
   |3,ho=>
    injection ho with ho
    subst ho;intro σ S w hS hpre hdc hX;refine Seq.val (aa.eX 3 rfl rfl Tryz.underlying71 rfl (by kernel_rfl)) rfl rfl rfl (Seq.nil ?_);exact ab.aG rfl rfl rfl hpre rfl (fun _ _=>rfl) hX
   |4,ho=>
    injection ho with ho
    subst ho;intro σ S w hS hpre hdc hX
    have h8:S 8=false:=by
     cases h8:S 8 with
     |false=>rfl
     |true=>have:=hdc 8 _ rfl h8 4 (ax rfl);rw[hS] at this;cases this
    refine Seq.val (aa.ak (g:=gt) (i:=3) rfl rfl Tryz.underlying69 rfl (kt2.fz (hX.1 h8).fz (by omega)) rfl) rfl rfl rfl (Seq.nil ?_);exact ab.aG rfl rfl rfl hpre rfl (fun _ _=>rfl) hX
   |5,ho=>
    injection ho with ho
    subst ho;intro σ S w hS hpre hdc hX
    have hb:aE w b1 189 #[.pointer (some ⟨K.g,0,none⟩)]:=by
     cases h8:S 8 with
     |false=>exact kb12.uL pw2.an (hX.1 h8).fz (Nat.le_refl _)
     |true=>obtain⟨x,q,-,hkp,-⟩:=hX.2 h8;exact hkp.an kb12
    refine Seq.val (aa.ak (g:=b1) (i:=0) rfl rfl Tryz.underlying189 rfl hb rfl) rfl rfl rfl (Seq.nil ?_);exact ab.aG rfl rfl rfl hpre rfl (fun _ _=>rfl) hX
   |6,ho=>
    injection ho with ho
    subst ho;intro σ S w hS hpre hdc hX
    have h8:S 8=false:=by
     cases h8:S 8 with
     |false=>rfl
     |true=>have:=hdc 8 _ rfl h8 6 (ax rfl);rw[hS] at this;cases this
    have h7:S 7=false:=by
     cases h7:S 7 with
     |false=>rfl
     |true=>have:=hdc 7 _ rfl h7 6 (ax rfl);rw[hS] at this;cases this
    have hXa:=hX.1 h8;have hcl:=hcall w (hXa.pre hS) hXa.fz;rcases Rs.bZ hne with ⟨q,ov,hr⟩|⟨x,q,hr⟩
    ·rw[hr] at hcl
     refine Seq.bJ (Ze Tryz.func128) rfl hcl ?_;rintro e w6 ⟨hf,rfl,d6,hp6⟩;refine⟨_,rfl,fun a ha=>⟨ha.defers,?_⟩⟩;rw[hr];exact⟨(fz2.trans ((hXa.fz.call hf).less hs2)).less hh,rfl,d6,hp6⟩
    ·rw[hr] at hcl
     refine Zc (Ze Tryz.func128) hcl ?_;rintro e w6 ⟨hf,v6,rfl,hp6,S6,hr6,hb6⟩;refine⟨_,rfl,Seq.nil ?_⟩;have hsz:=hXa.fz.size;refine ab.aG (σ:=σ) (σ':=(v6,S6,σ.2.2.1,σ.2.2.2)) rfl rfl rfl hpre rfl (fun j hj=> ?_) ⟨fun _=>⟨hXa.fz.call hf,(fun h=>by cases h),fun _=>⟨x,q,hr,hp6,hr6,fun b hb=>⟨by have:=(hb6 b hb).1;omega,(hb6 b hb).2⟩⟩,fun hm=> ?_⟩,fun hm=> ?_⟩
     ·match j,hj with
      |0,_=>rfl
      |1,_=>rfl
      |2,_=>rfl
      |3,_=>rfl
      |4,_=>rfl
      |5,_=>rfl
      |6,hj=>rw[hS] at hj;cases hj
      |7,hj=>rw[h7] at hj;cases hj
      |8,_=>rfl
      |j+9,_=>rfl
     ·have hm:S 7=true:=hm
      rw[h7] at hm;cases hm
     ·have hm:S 8=true:=hm
      rw[h8] at hm;cases hm
   |7,ho=>
    injection ho with ho
    subst ho;intro σ S w hS hpre hdc hX
    have h8:S 8=false:=by
     cases h8:S 8 with
     |false=>rfl
     |true=>have:=hdc 8 _ rfl h8 7 (ax rfl);rw[hS] at this;cases this
    have hXa:=hX.1 h8;obtain⟨x,q,q1,q2,q3,q4⟩:=hXa.post (hpre 6 (ax rfl));have hones:=q3.bt;refine Seq.slice (vs:=[σ.1]) (s:=4) rfl rfl rfl Tryz.underlying69 (by kernel_rfl) aK (by omega) (by omega) ⟨hones.1,trivial⟩ rfl rfl rfl ?_;intro g7 w' n7;refine Seq.nil ?_;have hsz:=hXa.fz.size;have hcells:(aC [σ.1]).toArray=σ.1.cells:=by simp[aC]
    have n7b:=n7.an;rw[hcells] at n7b;refine ab.aG (σ:=σ) (σ':=(σ.1,σ.2.1,g7,σ.2.2.2)) rfl rfl rfl hpre rfl (fun j hj=> ?_) ⟨fun _=>⟨hXa.fz.step n7.below,fun h=>(hXa.pre h).step hle n7.below,fun h=> ?_,fun _=>⟨Nat.le_trans hsz n7.ge,n7b,fun h hb=> ?_⟩⟩,fun hm=> ?_⟩
    ·match j,hj with
     |0,_=>rfl
     |1,_=>rfl
     |2,_=>rfl
     |3,_=>rfl
     |4,_=>rfl
     |5,_=>rfl
     |6,_=>rfl
     |7,hj=>rw[hS] at hj;cases hj
     |8,_=>rfl
     |j+9,_=>rfl
    ·exact⟨x,q,q1,q2.step hle n7.below,q3.mono (fun _ h=>h) (fun a ha=>n7.below.cell (q4 _ ha).2),fun b hb=>⟨(q4 b hb).1,Nat.lt_of_lt_of_le (q4 b hb).2 n7.below.size⟩⟩
    ·exact Nat.lt_irrefl _ (Nat.lt_of_lt_of_le (q4 _ hb).2 n7.ge)
    ·have hm:S 8=true:=hm
     rw[h8] at hm;cases hm
   |8,ho=>
    injection ho with ho
    subst ho;intro σ S w hS hpre hdc hX;have hXa:=hX.1 hS;obtain⟨x,q,hr,pw3,hrep,haway⟩:=hXa.post (hpre 6 (ax rfl));obtain⟨e7,k7,hn7⟩:=hXa.new (hpre 7 (ax rfl));have hones:=hrep.bt;have hsz:=hXa.fz.size;have aq3:=aq2.fz hXa.fz hg0;have hown:=aq3.iE;have k90:=kt2.fz hXa.fz (by omega);refine Seq.hZ rfl rfl rfl Tryz.underlying69 (by kernel_rfl) aK rfl (by decide) (b:=72) (by kernel_rfl) hown (Reads.an (size:=4) k7 1 hones.1) hones.2 (by omega) (by simp only[maxLen];omega) (by omega) rfl rfl rfl ?_;intro v' w4 hown' happ hv';refine Seq.nil ?_;have hs4:=happ.below.size
    have aq6:=aq3.Ba hrep (fun b hb=>⟨by have:=(haway b hb).1;omega,(haway b hb).2,by have:=(haway b hb).1;omega,fun e=>by have:=(aq2.fo.aQ b e).2;have:=(haway b hb).1;omega,fun e=>by have:=(aq2.iE.aQ b e).2;have:=(haway b hb).1;omega⟩) hown' hs4
     (fun b _ h2 h3 h4=>happ.grown.block b h2 (fun e=>h4 e.symm)) (hv'.elim .inl fun e=> .inr ⟨_,e,Nat.le_refl _⟩) (by omega)
    refine ab.aG (σ:=σ) (σ':=(σ.1,σ.2.1,σ.2.2.1,v')) rfl rfl rfl hpre rfl (fun j hj=> ?_) ⟨(fun h=>by cases h),fun _=>⟨x,q,hr,((Kp.refl w2).fz pw2.an hXa.fz).app hown happ,(hXa.fz.less hh2).trans (Fz.of happ.below),⟨pw3.an.grown happ.grown (fun e=>by have:=hown.aQ _ e.symm;omega),pw3.rd.below (happ.below.mono (by omega)),pw3.cj,pw3.cD⟩,k90.grown happ.grown (fun e=>aq3.zs e.symm),_,aq6⟩⟩
    match j,hj with
    |0,_=>rfl
    |1,_=>rfl
    |2,_=>rfl
    |3,_=>rfl
    |4,_=>rfl
    |5,_=>rfl
    |6,_=>rfl
    |7,_=>rfl
    |8,hj=>rw[hS] at hj;cases hj
    |j+9,_=>rfl
   |k+9,ho=>simp at ho
  ·rintro⟨v6,S6,g7,v8⟩ S w3 hS hX
   obtain⟨x,q,hr,kp3,fz3,pw3,k90,S',aq3⟩:=hX.2 (hS 8 (by decide));clear hX;dsimp only at aq3;have hs3:=fz3.size;have e90:h0≤gt:=hgt;have bel:Fz h0 K.g w w3:=(fz2.less hh).trans fz3;have kp:=kp2.trans kp3;have pwk:=pw3.an;have hlt3:=k90.lt;rw[hr];obtain⟨AX,cX,hvX,-⟩:=aq3.iE.reads;subst hvX;refine Zv (aa.nilCheck rfl rfl) ?_;refine Zf 3 Tryz.underlying71 ?_;refine Zq k90 ?_;intro w1 pw1;replace bel:=bel.put k90 pw1 e90;replace kp:=kp.put k90 pw1 e90;replace aq3:=aq3.put k90 pw1 e90;replace k90:=pw1.an;refine bk 0 1 3 ?_;have pw5:PW K w1 q d false:=⟨pwk.put pw1 (by omega),pw3.rd.below (pw1.below (by omega) hlt3),pw3.cj,pw3.cD⟩;refine ab.du rfl (.inr rfl) ?_;exact⟨bel,_,rfl,pw5,kp,_,_,_,_,_,k90,aq3⟩
theorem vp (K:Ctx)(hK:K.Ok)(h0 gt b0 b1 d p:Nat)(op:Int)(nm:List Nat)(es:List Ex)(ts:List Tm)(evs tvs:List Value)(vE vT:Value)(S0:Nat→Prop)(T:Nat→Nat→Rs Ex)(w:World)(pw:PW K w p d false)(hg0:K.g<h0)(hgt:h0≤gt)(hh:h0≤w.heap.size)
  (kt:aE w gt 71 #[.int .i64 op, .string (strOf nm),vE,vT]) (kb0:aE w b0 227 #[.pointer (some ⟨gt,0,none⟩)]) (kb1:aE w b1 189 #[.pointer (some ⟨K.g,0,none⟩)]) (aq:cW w h0 gt es ts evs tvs vE vT S0) (hl:es.length≤10)
  (hc:∀W,PW K W p d false→Fz w.heap.size K.g w W→Calls Tryz.prog 151 #[.pointer (some ⟨K.g,0,none⟩), .int .i64 0] W (PR K W d (T p d) (yl W))) (hne:T p d≠ .out):
  Calls Tryz.prog 211 #[.pointer (some ⟨b0,0,none⟩), .pointer (some ⟨b1,0,none⟩)] w (qM K h0 w d (T p d) fun x _ W'=>Kp w W'∧∃evs tvs vE vT S,aE W' gt 71 #[.int .i64 op, .string (strOf nm),vE,vT]∧cW W' h0 gt (es++[x]) ts evs tvs vE vT S):=by
 have hle:=hK.le;have hgg:K.g<w.heap.size:=pw.an.lt;have hgtl:gt<w.heap.size:=kt.lt;obtain⟨AE,cE,rfl,-⟩:=aq.fo.reads;obtain⟨AT,cT,rfl,-⟩:=aq.iE.reads;refine Zs 27 Tryz.func211 ?_;refine Cd.seq ?_;refine Cd.lH (σT:=Nat × Bool) 3 (by kernel_rfl) rfl rfl (fun σ=>[.pointer (some ⟨σ.1,0,none⟩),undef,undef]) (fun σ S W=>Below w.heap.size w W∧(S 0=true→w.heap.size≤σ.1∧aE W σ.1 4 #[.bool σ.2])) ((0,false)) ?_ ?_ ?_
 ·intro w0 hb0 hs0
  exact⟨hb0,fun h=>by cases h⟩
 ·intro k o ho
  match k,ho with
  |0,ho=>
   injection ho with ho
   subst ho;intro σ S w hS hpre hdc hX;refine Zl ly ?_;intro g2 w' n2;refine Seq.nil ?_;exact ab.aG (σ:=σ) (σ':=(g2,false)) rfl rfl rfl hpre rfl (fun j hj=>by cases j with|zero=>rw[hS] at hj;cases hj|succ j=>rfl) ⟨hX.1.trans (n2.below.mono hX.1.size),fun _=>⟨Nat.le_trans hX.1.size n2.ge,n2.an⟩⟩
  |1,ho=>
   injection ho with ho
   subst ho;intro σ S w hS hpre hdc hX;have h2:=hX.2 (hpre 0 (ax rfl));refine Zq h2.2 ?_;intro w' pq;refine Seq.nil ?_;exact ab.jt (σ:=σ) (σ':=(σ.1,true)) rfl rfl rfl (fun _ _=>rfl) ⟨pq.gH hX.1 h2.1 h2.2.lt,fun _=>⟨h2.1,pq.an⟩⟩
  |2,ho=>
   injection ho with ho
   subst ho;intro σ S w hS hpre hdc hX;have h2:=hX.2 (hpre 0 (ax rfl));refine Zq h2.2 ?_;intro w' pq;refine Seq.nil ?_;exact ab.jt (σ:=σ) (σ':=(σ.1,false)) rfl rfl rfl (fun _ _=>rfl) ⟨pq.gH hX.1 h2.1 h2.2.lt,fun _=>⟨h2.1,pq.an⟩⟩
  |k+3,ho=>simp at ho
 rintro⟨g2,b2⟩ S w2 hS ⟨bel2,hX⟩;obtain⟨e2,k2⟩:=hX (hS 0 (by decide));dsimp only at e2 k2;have pw2:=pw.step hle bel2;have kt2:=kt.step bel2;have kb02:=kb0.step bel2;have kb12:=kb1.step bel2;have aq2:=aq.step bel2;have hs2:=bel2.size;have fz2:Fz w.heap.size K.g w w2:=Fz.of bel2;have kp2:Kp w w2:=(Kp.refl w).step bel2;have hh2:h0≤w2.heap.size:=by omega
 clear pw kt kb0 kb1 aq hX;have hcall:∀W,PW K W p d false→Fz w2.heap.size K.g w2 W→Calls Tryz.prog 151 #[.pointer (some ⟨K.g,0,none⟩), .int .i64 0] W (PR K W d (T p d) (yl W)):=fun W h1 h2=>hc W h1 (fz2.trans (h2.less hs2));refine ZL Tryz.underlying4 k2 ?_;refine bk 0 1 3 (Zt ?_);refine Cd.cond rfl (fun hcn=> ?_) (fun hcn=> ?_)
 ·skip
  refine Cd.seq ?_;refine Cd.lH (σT:=Value × (Nat→Prop) × Nat) 8 (by kernel_rfl) rfl rfl (fun σ=>[.pointer (some ⟨gt,0,none⟩), .pointer (some ⟨gt,0,none⟩), .pointer (some ⟨gt,2,none⟩), .slice AE es.length cE, .pointer (some ⟨K.g,0,none⟩),σ.1, .int .i64 (es.length:Int), .slice (some ⟨σ.2.2,0,none⟩) 1 1]) (fun σ S W=>XA bX K w2 p d (T p d) (S 5) (S 7) σ.2.1 σ.1 σ.2.2 105 #[.int .i64 0, .int .i64 0, .string {data:= #[]}, .slice none 0 0] W) ((undef,fun _=>False,0)) ?_ ?_ ?_
  ·intro w0 hb0 hs0
   exact⟨Fz.of hb0,fun _=>pw2.step hle hb0,fun h=>(by cases h),fun h=>(by cases h)⟩
  ·intro k o ho
   match k,ho with
   |0,ho=>
    injection ho with ho
    subst ho;intro σ S w hS hpre hdc hX;refine Seq.val (aa.ak (g:=b0) (i:=0) rfl rfl Tryz.underlying227 rfl (kb02.uL pw2.an hX.fz (Nat.le_refl _)) rfl) rfl rfl rfl (Seq.nil ?_);exact ab.aG rfl rfl rfl hpre rfl (fun _ _=>rfl) hX
   |1,ho=>
    injection ho with ho
    subst ho;intro σ S w hS hpre hdc hX;refine Seq.val (aa.nilCheck rfl rfl) rfl rfl rfl (Seq.nil ?_);exact ab.aG rfl rfl rfl hpre rfl (fun _ _=>rfl) hX
   |2,ho=>
    injection ho with ho
    subst ho;intro σ S w hS hpre hdc hX;refine Seq.val (aa.eX 2 rfl rfl Tryz.underlying71 rfl (by kernel_rfl)) rfl rfl rfl (Seq.nil ?_);exact ab.aG rfl rfl rfl hpre rfl (fun _ _=>rfl) hX
   |3,ho=>
    injection ho with ho
    subst ho;intro σ S w hS hpre hdc hX;refine Seq.val (aa.ak (g:=gt) (i:=2) rfl rfl Tryz.underlying68 rfl (kt2.fz hX.fz (by omega)) rfl) rfl rfl rfl (Seq.nil ?_);exact ab.aG rfl rfl rfl hpre rfl (fun _ _=>rfl) hX
   |4,ho=>
    injection ho with ho
    subst ho;intro σ S w hS hpre hdc hX;refine Seq.val (aa.ak (g:=b1) (i:=0) rfl rfl Tryz.underlying189 rfl (kb12.uL pw2.an hX.fz (Nat.le_refl _)) rfl) rfl rfl rfl (Seq.nil ?_);exact ab.aG rfl rfl rfl hpre rfl (fun _ _=>rfl) hX
   |5,ho=>
    injection ho with ho
    subst ho;intro σ S w hS hpre hdc hX;have hcl:=hcall w (hX.pre hS) hX.fz;rcases Rs.bZ hne with ⟨q,ov,hr⟩|⟨x,q,hr⟩
    ·rw[hr] at hcl
     refine Seq.bJ (Ze Tryz.func151) rfl hcl ?_;rintro e w6 ⟨hf,rfl,d6,hp6⟩;refine⟨_,rfl,fun a ha=>⟨ha.defers,?_⟩⟩;rw[hr];exact⟨(fz2.trans ((hX.fz.call hf).less hs2)).less hh,rfl,d6,hp6⟩
    ·rw[hr] at hcl
     refine Zc (Ze Tryz.func151) hcl ?_;rintro e w6 ⟨hf,v6,rfl,hp6,S6,hr6,hb6⟩;refine⟨_,rfl,Seq.nil ?_⟩;have hsz:=hX.fz.size;refine ab.aG (σ:=σ) (σ':=(v6,S6,σ.2.2)) rfl rfl rfl hpre rfl (fun j hj=> ?_) ⟨hX.fz.call hf,(fun h=>by cases h),fun _=>⟨x,q,hr,hp6,hr6,fun b hb=>⟨by have:=(hb6 b hb).1;omega,(hb6 b hb).2⟩⟩,fun hm=> ?_⟩
     ·match j,hj with
      |0,_=>rfl
      |1,_=>rfl
      |2,_=>rfl
      |3,_=>rfl
      |4,_=>rfl
      |5,hj=>rw[hS] at hj;cases hj
      |6,_=>rfl
      |7,_=>rfl
      |j+8,_=>rfl
     ·obtain⟨m1,m2,-⟩:=hX.new hm
      exact⟨m1,m2.fz hf (by omega),fun _ hb=>Nat.lt_irrefl _ (Nat.lt_of_lt_of_le m2.lt (hb6 _ hb).1)⟩
   |6,ho=>
    injection ho with ho
    subst ho;intro σ S w hS hpre hdc hX;refine Seq.val (aa.len rfl rfl Tryz.underlying68) rfl rfl rfl (Seq.nil ?_);exact ab.aG rfl rfl rfl hpre rfl (fun _ _=>rfl) hX
   |7,ho=>
    injection ho with ho
    subst ho;intro σ S w hS hpre hdc hX;refine Seq.slice (vs:=[.agg #[.int .i64 0, .int .i64 0, .string {data:= #[]}, .slice none 0 0]]) (s:=4) rfl rfl rfl Tryz.underlying68 (by kernel_rfl) au (by omega) (by omega) ⟨rfl,trivial⟩ rfl rfl rfl ?_;intro g7 w' n7;refine Seq.nil ?_;have hsz:=hX.fz.size;refine ab.aG (σ:=σ) (σ':=(σ.1,σ.2.1,g7)) rfl rfl rfl hpre rfl (fun j hj=> ?_) ⟨hX.fz.step n7.below,fun h=>(hX.pre h).step hle n7.below,fun h=> ?_,fun _=>⟨Nat.le_trans hsz n7.ge,n7.an,fun h hb=> ?_⟩⟩
    ·match j,hj with
     |0,_=>rfl
     |1,_=>rfl
     |2,_=>rfl
     |3,_=>rfl
     |4,_=>rfl
     |5,_=>rfl
     |6,_=>rfl
     |7,hj=>rw[hS] at hj;cases hj
     |j+8,_=>rfl
    ·obtain⟨x,q,q1,q2,q3,q4⟩:=hX.post h
     exact⟨x,q,q1,q2.step hle n7.below,q3.mono (fun _ h=>h) (fun a ha=>n7.below.cell (q4 _ ha).2),fun b hb=>⟨(q4 b hb).1,Nat.lt_of_lt_of_le (q4 b hb).2 n7.below.size⟩⟩
    ·obtain⟨x,q,q1,q2,q3,q4⟩:=hX.post h
     exact Nat.lt_irrefl _ (Nat.lt_of_lt_of_le (q4 _ hb).2 n7.ge)
   |k+8,ho=>simp at ho
  ·rintro⟨v5,S5,g7⟩ S w3 hS hX
   obtain⟨x,q,hr,pw3,hrep,haway⟩:=hX.post (hS 5 (by decide));obtain⟨e7,k7,hn7⟩:=hX.new (hS 7 (by decide));dsimp only at hrep haway e7 k7;have fz3:=hX.fz;clear hX;have hs3:=fz3.size;have k90:=kt2.fz fz3 (by omega);have aq3:=aq2.fz fz3 hg0;have kp3:Kp w w3:=kp2.fz pw2.an fz3;have e90:h0≤gt:=hgt;have bel:Fz h0 K.g w w3:=(fz2.trans (fz3.less hs2)).less hh;have hh3:h0≤w3.heap.size:=by omega
   have hown:=aq3.fo;have hones:=hrep.bt;rw[hr];refine Seq.hZ rfl rfl rfl Tryz.underlying68 (by kernel_rfl) au rfl (by decide) (b:=56) (by kernel_rfl) hown (Reads.an (size:=4) k7 1 rfl) (by intro z hz;simp at hz;rcases hz with rfl|rfl|rfl|rfl<;>rfl) hh3 (by simp only[maxLen];omega) (by omega) rfl rfl rfl ?_;intro v' w4 hown' happ hv';obtain⟨AV,cV,hvV,-⟩:=hown'.reads;subst hvV;have k90':=k90.grown happ.grown (fun e=>aq3.xj e.symm);have pw4:PW K w4 q d false:=⟨pw3.an.grown happ.grown (fun e=>by have:=hown.aQ _ e.symm;omega),pw3.rd.below (happ.below.mono (by omega)),pw3.cj,pw3.cD⟩;have kp4:=kp3.app hown happ;have bel4:Fz h0 K.g w w4:=bel.trans (Fz.of happ.below);have hs4:=happ.below.size;have hgrow:=happ.grown;clear bel k90 kp3;have bel:=bel4;have k90:=k90';have kp:=kp4;have pwk:=pw4.an;refine Zv (aa.nilCheck rfl rfl) ?_;refine Zf 2 Tryz.underlying71 ?_;refine Zq k90 ?_;intro w1 pw1;replace bel:=bel.put k90 pw1 e90;replace kp:=kp.put k90 pw1 e90;replace k90:=pw1.an;refine aV 0 1 3 9 10 12 (et ?_);have hb5:∀b,b<w3.heap.size→b≠gt→(Value.slice AE es.length cE).ownBlock≠some b→w1.heap[b]? =w3.heap[b]? :=fun b h1 h2 h3=>(pw1.grown.block b (by omega) (fun e=>h2 (by injection e))).trans (hgrow.block b h1 (fun e=>h3 e.symm))
   have hvown:∀b,(Value.slice AV (es.length+1) cV).ownBlock=some b→b≠gt:=fun b e1 e2=>by
    rcases hv' with e|e
    ·exact aq3.xj (by rw[←e,e1,e2])
    ·rw[e] at e1;injection e1 with e1;omega
   have hown5:Own w1 h0 105 4 (.slice AV (es.length+1) cV) (es.length+1) (aC evs++_):=hown'.eO (Nat.le_of_eq pw1.size.symm) fun b e=>pw1.grown.block b ((hown'.aQ b e).2) (fun e'=>hvown b e (by injection e'));have hlv:(aC evs).length=es.length*4:=hown.row.1;obtain⟨gv,cap,cur,hvv,hgv,hgvl,kv,hfit,hset⟩:=hown5.mo hlv;have hgne:gv≠gt:=hvown gv (by rw[hvv];rfl);obtain⟨rfl,rfl⟩:AV=some ⟨gv,0,none⟩∧cV=cap:=by injection hvv with h1 _ h3;exact⟨h1,h3⟩
   have haddr:(⟨gv,0,none⟩:Addr).add (es.length*4)=⟨gv,es.length*4,none⟩:=by unfold Addr.add;split<;>simp_all
   refine Zv (aa.aU rfl rfl rfl Tryz.underlying68 (s:=4) (by kernel_rfl) (j:=es.length) rfl (by omega)) ?_;rw[haddr];refine Seq.ij rfl rfl rfl rfl (m:=4) (by kernel_rfl) hones.1 (fS hones.2) kv (by rw[hones.1];exact hfit) rfl rfl ?_;intro w6 p6;have hown6:=hset w6 v5.cells hones.1 p6;have kp6:Kp w w6:=kp.put kv p6 hgv;have bel6:Fz h0 K.g w w6:=bel.put kv p6 hgv;have k906:=k90.put p6 (fun e=>hgne e.symm);have pw6:PW K w6 q d false:=⟨(pwk.put pw1 (by omega)).put p6 (by omega),(pw4.rd.below (pw1.below (by omega) k90'.lt)).below (p6.below (by omega) hgvl),pw3.cj,pw3.cD⟩;have hsl:=p6.size;have hsl2:=pw1.size
   have aq6:=aq3.Af hrep (fun b hb=>⟨by have:=(haway b hb).1;omega,(haway b hb).2,by have:=(haway b hb).1;omega,fun e=>by have:=(aq2.fo.aQ b e).2;have:=(haway b hb).1;omega,fun e=>by have:=(aq2.iE.aQ b e).2;have:=(haway b hb).1;omega⟩) hown6 (by omega)
    (fun b _ h2 h3 h4=>(p6.grown.block b (by omega) (fun e=>by
     injection e with e
     rcases hv' with e'|e'
     ·exact h4 (by rw[←e',e];rfl)
     ·injection e' with e'
      have e':gv=w3.heap.size:=e';omega)).trans (hb5 b h2 h3 h4))
    (hv'.elim .inl fun e=> .inr ⟨_,e,Nat.le_refl _⟩) (by omega)
   refine aV 0 1 3 9 10 12 ?_;refine ab.du rfl (.inr rfl) ?_;exact⟨bel6,_,rfl,pw6,kp6,_,_,_,_,_,k906,aq6⟩
 ·skip
  refine Cd.lH (σT:=Value × (Nat→Prop) × Nat × Value) 9 (by kernel_rfl) rfl rfl (fun σ=>[.pointer (some ⟨gt,0,none⟩), .pointer (some ⟨gt,0,none⟩), .pointer (some ⟨gt,0,none⟩), .pointer (some ⟨gt,2,none⟩), .slice AE es.length cE, .pointer (some ⟨K.g,0,none⟩),σ.1, .slice (some ⟨σ.2.2.1,0,none⟩) 1 1,σ.2.2.2]) (fun σ S W=>(S 8=false→XA bX K w2 p d (T p d) (S 6) (S 7) σ.2.1 σ.1 σ.2.2.1 105 σ.1.cells W)∧(S 8=true→∃x q,T p d= .ok x q∧Kp w2 W∧Fz h0 K.g w2 W∧PW K W q d false∧aE W gt 71 #[.int .i64 op, .string (strOf nm), .slice AE es.length cE, .slice AT ts.length cT]∧∃S',cW W h0 gt (es++[x]) ts (evs++[σ.1]) tvs σ.2.2.2 (.slice AT ts.length cT) S')) ((undef,fun _=>False,0,undef)) ?_ ?_ ?_
  ·intro w0 hb0 hs0
   exact⟨fun _=>⟨Fz.of hb0,fun _=>pw2.step hle hb0,fun h=>(by cases h),fun h=>(by cases h)⟩,fun h=>(by cases h)⟩
  ·intro k o ho
   match k,ho with
   |0,ho=>
    injection ho with ho
    subst ho;intro σ S w hS hpre hdc hX
    have hb:aE w b0 227 #[.pointer (some ⟨gt,0,none⟩)]:=by
     cases h8:S 8 with
     |false=>exact kb02.uL pw2.an (hX.1 h8).fz (Nat.le_refl _)
     |true=>obtain⟨x,q,-,hkp,-⟩:=hX.2 h8;exact hkp.an kb02
    refine Seq.val (aa.ak (g:=b0) (i:=0) rfl rfl Tryz.underlying227 rfl hb rfl) rfl rfl rfl (Seq.nil ?_);exact ab.aG rfl rfl rfl hpre rfl (fun _ _=>rfl) hX
   |1,ho=>
    injection ho with ho
    subst ho;intro σ S w hS hpre hdc hX
    have hb:aE w b0 227 #[.pointer (some ⟨gt,0,none⟩)]:=by
     cases h8:S 8 with
     |false=>exact kb02.uL pw2.an (hX.1 h8).fz (Nat.le_refl _)
     |true=>obtain⟨x,q,-,hkp,-⟩:=hX.2 h8;exact hkp.an kb02
    refine Seq.val (aa.ak (g:=b0) (i:=0) rfl rfl Tryz.underlying227 rfl hb rfl) rfl rfl rfl (Seq.nil ?_);exact ab.aG rfl rfl rfl hpre rfl (fun _ _=>rfl) hX
   |2,ho=>
    injection ho with ho
    subst ho;intro σ S w hS hpre hdc hX;refine Seq.val (aa.nilCheck rfl rfl) rfl rfl rfl (Seq.nil ?_);exact ab.aG rfl rfl rfl hpre rfl (fun _ _=>rfl) hX
   |3,ho=>
    injection ho with ho
    subst ho;intro σ S w hS hpre hdc hX;refine Seq.val (aa.eX 2 rfl rfl Tryz.underlying71 rfl (by kernel_rfl)) rfl rfl rfl (Seq.nil ?_);exact ab.aG rfl rfl rfl hpre rfl (fun _ _=>rfl) hX
   |4,ho=>
    injection ho with ho
    subst ho;intro σ S w hS hpre hdc hX
    have h8:S 8=false:=by
     cases h8:S 8 with
     |false=>rfl
     |true=>have:=hdc 8 _ rfl h8 4 (ax rfl);rw[hS] at this;cases this
    refine Seq.val (aa.ak (g:=gt) (i:=2) rfl rfl Tryz.underlying68 rfl (kt2.fz (hX.1 h8).fz (by omega)) rfl) rfl rfl rfl (Seq.nil ?_);exact ab.aG rfl rfl rfl hpre rfl (fun _ _=>rfl) hX
   |5,ho=>
    injection ho with ho
    subst ho;intro σ S w hS hpre hdc hX
    have hb:aE w b1 189 #[.pointer (some ⟨K.g,0,none⟩)]:=by
     cases h8:S 8 with
     |false=>exact kb12.uL pw2.an (hX.1 h8).fz (Nat.le_refl _)
     |true=>obtain⟨x,q,-,hkp,-⟩:=hX.2 h8;exact hkp.an kb12
    refine Seq.val (aa.ak (g:=b1) (i:=0) rfl rfl Tryz.underlying189 rfl hb rfl) rfl rfl rfl (Seq.nil ?_);exact ab.aG rfl rfl rfl hpre rfl (fun _ _=>rfl) hX
   |6,ho=>
    injection ho with ho
    subst ho;intro σ S w hS hpre hdc hX
    have h8:S 8=false:=by
     cases h8:S 8 with
     |false=>rfl
     |true=>have:=hdc 8 _ rfl h8 6 (ax rfl);rw[hS] at this;cases this
    have h7:S 7=false:=by
     cases h7:S 7 with
     |false=>rfl
     |true=>have:=hdc 7 _ rfl h7 6 (ax rfl);rw[hS] at this;cases this
    have hXa:=hX.1 h8;have hcl:=hcall w (hXa.pre hS) hXa.fz;rcases Rs.bZ hne with ⟨q,ov,hr⟩|⟨x,q,hr⟩
    ·rw[hr] at hcl
     refine Seq.bJ (Ze Tryz.func151) rfl hcl ?_;rintro e w6 ⟨hf,rfl,d6,hp6⟩;refine⟨_,rfl,fun a ha=>⟨ha.defers,?_⟩⟩;rw[hr];exact⟨(fz2.trans ((hXa.fz.call hf).less hs2)).less hh,rfl,d6,hp6⟩
    ·rw[hr] at hcl
     refine Zc (Ze Tryz.func151) hcl ?_;rintro e w6 ⟨hf,v6,rfl,hp6,S6,hr6,hb6⟩;refine⟨_,rfl,Seq.nil ?_⟩;have hsz:=hXa.fz.size;refine ab.aG (σ:=σ) (σ':=(v6,S6,σ.2.2.1,σ.2.2.2)) rfl rfl rfl hpre rfl (fun j hj=> ?_) ⟨fun _=>⟨hXa.fz.call hf,(fun h=>by cases h),fun _=>⟨x,q,hr,hp6,hr6,fun b hb=>⟨by have:=(hb6 b hb).1;omega,(hb6 b hb).2⟩⟩,fun hm=> ?_⟩,fun hm=> ?_⟩
     ·match j,hj with
      |0,_=>rfl
      |1,_=>rfl
      |2,_=>rfl
      |3,_=>rfl
      |4,_=>rfl
      |5,_=>rfl
      |6,hj=>rw[hS] at hj;cases hj
      |7,hj=>rw[h7] at hj;cases hj
      |8,_=>rfl
      |j+9,_=>rfl
     ·have hm:S 7=true:=hm
      rw[h7] at hm;cases hm
     ·have hm:S 8=true:=hm
      rw[h8] at hm;cases hm
   |7,ho=>
    injection ho with ho
    subst ho;intro σ S w hS hpre hdc hX
    have h8:S 8=false:=by
     cases h8:S 8 with
     |false=>rfl
     |true=>have:=hdc 8 _ rfl h8 7 (ax rfl);rw[hS] at this;cases this
    have hXa:=hX.1 h8;obtain⟨x,q,q1,q2,q3,q4⟩:=hXa.post (hpre 6 (ax rfl));have hones:=q3.bt;refine Seq.slice (vs:=[σ.1]) (s:=4) rfl rfl rfl Tryz.underlying68 (by kernel_rfl) au (by omega) (by omega) ⟨hones.1,trivial⟩ rfl rfl rfl ?_;intro g7 w' n7;refine Seq.nil ?_;have hsz:=hXa.fz.size;have hcells:(aC [σ.1]).toArray=σ.1.cells:=by simp[aC]
    have n7b:=n7.an;rw[hcells] at n7b;refine ab.aG (σ:=σ) (σ':=(σ.1,σ.2.1,g7,σ.2.2.2)) rfl rfl rfl hpre rfl (fun j hj=> ?_) ⟨fun _=>⟨hXa.fz.step n7.below,fun h=>(hXa.pre h).step hle n7.below,fun h=> ?_,fun _=>⟨Nat.le_trans hsz n7.ge,n7b,fun h hb=> ?_⟩⟩,fun hm=> ?_⟩
    ·match j,hj with
     |0,_=>rfl
     |1,_=>rfl
     |2,_=>rfl
     |3,_=>rfl
     |4,_=>rfl
     |5,_=>rfl
     |6,_=>rfl
     |7,hj=>rw[hS] at hj;cases hj
     |8,_=>rfl
     |j+9,_=>rfl
    ·exact⟨x,q,q1,q2.step hle n7.below,q3.mono (fun _ h=>h) (fun a ha=>n7.below.cell (q4 _ ha).2),fun b hb=>⟨(q4 b hb).1,Nat.lt_of_lt_of_le (q4 b hb).2 n7.below.size⟩⟩
    ·exact Nat.lt_irrefl _ (Nat.lt_of_lt_of_le (q4 _ hb).2 n7.ge)
    ·have hm:S 8=true:=hm
     rw[h8] at hm;cases hm
   |8,ho=>
    injection ho with ho
    subst ho;intro σ S w hS hpre hdc hX;have hXa:=hX.1 hS;obtain⟨x,q,hr,pw3,hrep,haway⟩:=hXa.post (hpre 6 (ax rfl));obtain⟨e7,k7,hn7⟩:=hXa.new (hpre 7 (ax rfl));have hones:=hrep.bt;have hsz:=hXa.fz.size;have aq3:=aq2.fz hXa.fz hg0;have hown:=aq3.fo;have k90:=kt2.fz hXa.fz (by omega);refine Seq.hZ rfl rfl rfl Tryz.underlying68 (by kernel_rfl) au rfl (by decide) (b:=56) (by kernel_rfl) hown (Reads.an (size:=4) k7 1 hones.1) hones.2 (by omega) (by simp only[maxLen];omega) (by omega) rfl rfl rfl ?_;intro v' w4 hown' happ hv';refine Seq.nil ?_;have hs4:=happ.below.size
    have aq6:=aq3.Af hrep (fun b hb=>⟨by have:=(haway b hb).1;omega,(haway b hb).2,by have:=(haway b hb).1;omega,fun e=>by have:=(aq2.fo.aQ b e).2;have:=(haway b hb).1;omega,fun e=>by have:=(aq2.iE.aQ b e).2;have:=(haway b hb).1;omega⟩) hown' hs4
     (fun b _ h2 h3 h4=>happ.grown.block b h2 (fun e=>h4 e.symm)) (hv'.elim .inl fun e=> .inr ⟨_,e,Nat.le_refl _⟩) (by omega)
    refine ab.aG (σ:=σ) (σ':=(σ.1,σ.2.1,σ.2.2.1,v')) rfl rfl rfl hpre rfl (fun j hj=> ?_) ⟨(fun h=>by cases h),fun _=>⟨x,q,hr,((Kp.refl w2).fz pw2.an hXa.fz).app hown happ,(hXa.fz.less hh2).trans (Fz.of happ.below),⟨pw3.an.grown happ.grown (fun e=>by have:=hown.aQ _ e.symm;omega),pw3.rd.below (happ.below.mono (by omega)),pw3.cj,pw3.cD⟩,k90.grown happ.grown (fun e=>aq3.xj e.symm),_,aq6⟩⟩
    match j,hj with
    |0,_=>rfl
    |1,_=>rfl
    |2,_=>rfl
    |3,_=>rfl
    |4,_=>rfl
    |5,_=>rfl
    |6,_=>rfl
    |7,_=>rfl
    |8,hj=>rw[hS] at hj;cases hj
    |j+9,_=>rfl
   |k+9,ho=>simp at ho
  ·rintro⟨v6,S6,g7,v8⟩ S w3 hS hX
   obtain⟨x,q,hr,kp3,fz3,pw3,k90,S',aq3⟩:=hX.2 (hS 8 (by decide));clear hX;dsimp only at aq3;have hs3:=fz3.size;have e90:h0≤gt:=hgt;have bel:Fz h0 K.g w w3:=(fz2.less hh).trans fz3;have kp:=kp2.trans kp3;have pwk:=pw3.an;have hlt3:=k90.lt;rw[hr];obtain⟨AX,cX,hvX,-⟩:=aq3.fo.reads;subst hvX;refine Zv (aa.nilCheck rfl rfl) ?_;refine Zf 2 Tryz.underlying71 ?_;refine Zq k90 ?_;intro w1 pw1;replace bel:=bel.put k90 pw1 e90;replace kp:=kp.put k90 pw1 e90;replace aq3:=aq3.put k90 pw1 e90;replace k90:=pw1.an;refine bk 0 1 3 ?_;have pw5:PW K w1 q d false:=⟨pwk.put pw1 (by omega),pw3.rd.below (pw1.below (by omega) hlt3),pw3.cj,pw3.cD⟩;refine ab.du rfl (.inr rfl) ?_;exact⟨bel,_,rfl,pw5,kp,_,_,_,_,_,k90,aq3⟩
structure XB (K:Ctx)(h0 gt d q:Nat)(op z:Int)(nm:List Nat)(m:Nat)(base:List Value)(vE:Value)(gv cap:Nat)(v:Value)(set stored:Bool)(w2 W3 w:World):Prop where
 own:Own w h0 105 4 (.slice (some ⟨gv,0,none⟩) (m+1) cap) (m+1) (base++(bif set then v.cells.toList else [.int .i64 0, .int .i64 0, .string {data:= #[]}, .slice none 0 0]))
 box:aE w gt 105 #[.int .i64 op, .int .i64 z, .string (strOf nm),bif stored then .slice (some ⟨gv,0,none⟩) (m+1) cap else vE]
 pw:PW K w q d false
 kp:Kp w2 w
 fz:Fz h0 K.g w2 w
 hs:W3.heap.size≤w.heap.size
 hb:∀b,b<W3.heap.size→b≠gt→vE.ownBlock≠some b→w.heap[b]? =W3.heap[b]?
 hv:some gv=vE.ownBlock∨gv=W3.heap.size
 ne:gv≠gt
theorem rY (K:Ctx)(hK:K.Ok)(h0 gt b1 d p:Nat)(op z:Int)(nm:List Nat)(es:List Ex)(evs:List Value)(vE:Value)(S0:Nat→Prop)(T:Nat→Nat→Rs Ex)(wa:World)(pw:PW K wa p d false)(hg0:K.g<h0)(hgt:h0≤gt)(hh:h0≤wa.heap.size)
  (kt:aE wa gt 105 #[.int .i64 op, .int .i64 z, .string (strOf nm),vE]) (kb1:aE wa b1 189 #[.pointer (some ⟨K.g,0,none⟩)]) (aq:cW wa h0 gt es [] evs [] vE (.slice none 0 0) S0) (hl:es.length≤10)
  (hc:∀W,PW K W p d false→Fz wa.heap.size K.g wa W→Calls Tryz.prog 151 #[.pointer (some ⟨K.g,0,none⟩), .int .i64 0] W (PR K W d (T p d) (yl W))) (hne:T p d≠ .out):
  Calls Tryz.prog 242 #[.pointer (some ⟨gt,0,none⟩), .pointer (some ⟨b1,0,none⟩)] wa (qM K h0 wa d (T p d) fun x _ W'=>Kp wa W'∧∃evs vE S,aE W' gt 105 #[.int .i64 op, .int .i64 z, .string (strOf nm),vE]∧cW W' h0 gt (es++[x]) [] evs [] vE (.slice none 0 0) S):=by
 have hle:=hK.le;have hgg:K.g<wa.heap.size:=pw.an.lt;have hgtl:gt<wa.heap.size:=kt.lt;obtain⟨AE,cE,rfl,-⟩:=aq.fo.reads;refine Zs 11 Tryz.func242 ?_;refine Cd.lH (σT:=Value × (Nat→Prop) × Nat × Nat × Nat × World) 11 (by kernel_rfl) rfl rfl (fun σ=>[.pointer (some ⟨gt,3,none⟩), .slice AE es.length cE, .pointer (some ⟨K.g,0,none⟩),σ.1, .int .i64 (es.length:Int), .slice (some ⟨σ.2.2.1,0,none⟩) 1 1, .slice (some ⟨σ.2.2.2.1,0,none⟩) (es.length+1) σ.2.2.2.2.1, .pointer (some ((⟨σ.2.2.2.1,0,none⟩:Addr).add (es.length*4))),undef, .pointer (some ⟨gt,3,none⟩),undef]) (fun σ S W=>(S 6=false→XA bX K wa p d (T p d) (S 3) (S 5) σ.2.1 σ.1 σ.2.2.1 105 #[.int .i64 0, .int .i64 0, .string {data:= #[]}, .slice none 0 0] W)∧(S 6=true→∃x q,T p d= .ok x q∧XA bX K wa p d (T p d) true true σ.2.1 σ.1 σ.2.2.1 105 #[.int .i64 0, .int .i64 0, .string {data:= #[]}, .slice none 0 0] σ.2.2.2.2.2∧XB K h0 gt d q op z nm es.length (aC evs) (.slice AE es.length cE) σ.2.2.2.1 σ.2.2.2.2.1 σ.1 (S 8) (S 10) wa σ.2.2.2.2.2 W)) ((undef,fun _=>False,0,0,0,wa)) ?_ ?_ ?_
 ·intro w0 hb0 hs0
  exact⟨fun _=>⟨Fz.of hb0,fun _=>pw.step hle hb0,fun h=>(by cases h),fun h=>(by cases h)⟩,fun h=>(by cases h)⟩
 ·intro k o ho
  match k,ho with
  |0,ho=>
   injection ho with ho
   subst ho;intro σ S w hS hpre hdc hX;refine Seq.val (aa.eX 3 rfl rfl Tryz.underlying105 rfl (by kernel_rfl)) rfl rfl rfl (Seq.nil ?_);exact ab.aG rfl rfl rfl hpre rfl (fun _ _=>rfl) hX
  |1,ho=>
   injection ho with ho
   subst ho;intro σ S w hS hpre hdc hX
   have h6:S 6=false:=by
    cases h6:S 6 with
    |false=>rfl
    |true=>have:=hdc 6 _ rfl h6 1 (ax rfl);rw[hS] at this;cases this
   refine Seq.val (aa.ak (g:=gt) (i:=3) rfl rfl Tryz.underlying68 rfl (kt.fz (hX.1 h6).fz (by omega)) rfl) rfl rfl rfl (Seq.nil ?_);exact ab.aG rfl rfl rfl hpre rfl (fun _ _=>rfl) hX
  |2,ho=>
   injection ho with ho
   subst ho;intro σ S w hS hpre hdc hX
   have hb:aE w b1 189 #[.pointer (some ⟨K.g,0,none⟩)]:=by
    cases h6:S 6 with
    |false=>exact kb1.uL pw.an (hX.1 h6).fz (Nat.le_refl _)
    |true=>obtain⟨x,q,-,-,hB⟩:=hX.2 h6;exact hB.kp.an kb1
   refine Seq.val (aa.ak (g:=b1) (i:=0) rfl rfl Tryz.underlying189 rfl hb rfl) rfl rfl rfl (Seq.nil ?_);exact ab.aG rfl rfl rfl hpre rfl (fun _ _=>rfl) hX
  |3,ho=>
   injection ho with ho
   subst ho;intro σ S w hS hpre hdc hX
   have h6:S 6=false:=by
    cases h6:S 6 with
    |false=>rfl
    |true=>have:=hdc 6 _ rfl h6 3 (ax rfl);rw[hS] at this;cases this
   have hXa:=hX.1 h6;have hcl:=hc w (hXa.pre hS) hXa.fz;rcases Rs.bZ hne with ⟨q,ov,hr⟩|⟨x,q,hr⟩
   ·rw[hr] at hcl
    refine Seq.bJ (Ze Tryz.func151) rfl hcl ?_;rintro e w6 ⟨hf,rfl,d6,hp6⟩;refine⟨_,rfl,fun a ha=>⟨ha.defers,?_⟩⟩;rw[hr];exact⟨(hXa.fz.call hf).less hh,rfl,d6,hp6⟩
   ·rw[hr] at hcl
    refine Zc (Ze Tryz.func151) hcl ?_;rintro e w6 ⟨hf,v6,rfl,hp6,S6,hr6,hb6⟩;refine⟨_,rfl,Seq.nil ?_⟩;have hsz:=hXa.fz.size;refine ab.aG (σ:=σ) (σ':=(v6,S6,σ.2.2)) rfl rfl rfl hpre rfl (fun j hj=> ?_) ⟨fun _=>⟨hXa.fz.call hf,(fun h=>by cases h),fun _=>⟨x,q,hr,hp6,hr6,fun b hb=>⟨by have:=(hb6 b hb).1;omega,(hb6 b hb).2⟩⟩,fun hm=> ?_⟩,fun hm=> ?_⟩
    ·match j,hj with
     |0,_=>rfl
     |1,_=>rfl
     |2,_=>rfl
     |3,hj=>rw[hS] at hj;cases hj
     |4,_=>rfl
     |5,_=>rfl
     |6,_=>rfl
     |7,_=>rfl
     |8,_=>rfl
     |9,_=>rfl
     |10,_=>rfl
     |j+11,_=>rfl
    ·obtain⟨m1,m2,-⟩:=hXa.new hm
     exact⟨m1,m2.fz hf (by omega),fun _ hb=>Nat.lt_irrefl _ (Nat.lt_of_lt_of_le m2.lt (hb6 _ hb).1)⟩
    ·have hm:S 6=true:=hm
     rw[h6] at hm;cases hm
  |4,ho=>
   injection ho with ho
   subst ho;intro σ S w hS hpre hdc hX;refine Seq.val (aa.len rfl rfl Tryz.underlying68) rfl rfl rfl (Seq.nil ?_);exact ab.aG rfl rfl rfl hpre rfl (fun _ _=>rfl) hX
  |5,ho=>
   injection ho with ho
   subst ho;intro σ S w hS hpre hdc hX
   have h6:S 6=false:=by
    cases h6:S 6 with
    |false=>rfl
    |true=>have:=hdc 6 _ rfl h6 5 (ax rfl);rw[hS] at this;cases this
   have hXa:=hX.1 h6;refine Seq.slice (vs:=[.agg #[.int .i64 0, .int .i64 0, .string {data:= #[]}, .slice none 0 0]]) (s:=4) rfl rfl rfl Tryz.underlying68 (by kernel_rfl) au (by omega) (by omega) ⟨rfl,trivial⟩ rfl rfl rfl ?_;intro g7 wa' n7;refine Seq.nil ?_;have hsz:=hXa.fz.size;refine ab.aG (σ:=σ) (σ':=(σ.1,σ.2.1,g7,σ.2.2.2)) rfl rfl rfl hpre rfl (fun j hj=> ?_) ⟨fun _=>⟨hXa.fz.step n7.below,fun h=>(hXa.pre h).step hle n7.below,fun h=> ?_,fun _=>⟨Nat.le_trans hsz n7.ge,n7.an,fun h hb=> ?_⟩⟩,fun hm=> ?_⟩
   ·match j,hj with
    |0,_=>rfl
    |1,_=>rfl
    |2,_=>rfl
    |3,_=>rfl
    |4,_=>rfl
    |5,hj=>rw[hS] at hj;cases hj
    |6,_=>rfl
    |7,_=>rfl
    |8,_=>rfl
    |9,_=>rfl
    |10,_=>rfl
    |j+11,_=>rfl
   ·obtain⟨x,q,q1,q2,q3,q4⟩:=hXa.post h
    exact⟨x,q,q1,q2.step hle n7.below,q3.mono (fun _ h=>h) (fun a ha=>n7.below.cell (q4 _ ha).2),fun b hb=>⟨(q4 b hb).1,Nat.lt_of_lt_of_le (q4 b hb).2 n7.below.size⟩⟩
   ·obtain⟨x,q,q1,q2,q3,q4⟩:=hXa.post h
    exact Nat.lt_irrefl _ (Nat.lt_of_lt_of_le (q4 _ hb).2 n7.ge)
   ·have hm:S 6=true:=hm
    rw[h6] at hm;cases hm
  |6,ho=>
   injection ho with ho
   subst ho;intro σ S w hS hpre hdc hX;have hXa0:=hX.1 hS;have d3:S 3=true:=hpre 3 (ax rfl);have d5:S 5=true:=hpre 5 (ax rfl);have hXa:XA bX K wa p d (T p d) true true σ.2.1 σ.1 σ.2.2.1 105 #[.int .i64 0, .int .i64 0, .string {data:= #[]}, .slice none 0 0] w:=by rw[d3,d5] at hXa0;exact hXa0
   obtain⟨x,q,hr,pw3,hrep,haway⟩:=hXa.post rfl;obtain⟨e7,k7,hn7⟩:=hXa.new rfl;have hsz:=hXa.fz.size;have aq3:=aq.fz hXa.fz hg0;have hown:=aq3.fo;have k90:=kt.fz hXa.fz (by omega);refine Seq.hZ rfl rfl rfl Tryz.underlying68 (by kernel_rfl) au rfl (by decide) (b:=56) (by kernel_rfl) hown (Reads.an (size:=4) k7 1 rfl) (by intro z hz;simp at hz;rcases hz with rfl|rfl|rfl|rfl<;>rfl) (by omega) (by simp only[maxLen];omega) (by omega) rfl rfl rfl ?_;intro v' w4 hown' happ hv';refine Seq.nil ?_;have hs4:=happ.below.size;have hlv:(aC evs).length=es.length*4:=hown.row.1;obtain⟨gv,cap,cur,rfl,-⟩:=Own.mo (n:=es.length) (xs:=aC evs) hown' hlv
   have hd8:S 8=false:=by
    cases h:S 8 with
    |false=>rfl
    |true=>have:=hdc 8 _ rfl h 6 (ax rfl);rw[hS] at this;cases this
   have hd10:S 10=false:=by
    cases h:S 10 with
    |false=>rfl
    |true=>have:=hdc 10 _ rfl h 6 (ax rfl);rw[hS] at this;cases this
   have hd7:S 7=false:=by
    cases h:S 7 with
    |false=>rfl
    |true=>have:=hdc 7 _ rfl h 6 (ax rfl);rw[hS] at this;cases this
   have hgvne:gv≠gt:=fun e=>by
    subst e;rcases hv' with e|e
    ·exact aq3.xj (by rw[←e];rfl)
    ·injection e with e
     have e:gv=w.heap.size:=e;have:=k90.lt;omega
   refine ab.aG (σ:=σ) (σ':=(σ.1,σ.2.1,σ.2.2.1,gv,cap,w)) rfl rfl rfl hpre rfl (fun j hj=> ?_) ⟨(fun h=>by cases h),fun _=>⟨x,q,hr,hXa,?_⟩⟩
   ·match j,hj with
    |0,_=>rfl
    |1,_=>rfl
    |2,_=>rfl
    |3,_=>rfl
    |4,_=>rfl
    |5,_=>rfl
    |6,hj=>rw[hS] at hj;cases hj
    |7,hj=>rw[hd7] at hj;cases hj
    |8,_=>rfl
    |9,_=>rfl
    |10,_=>rfl
    |j+11,_=>rfl
   ·have e8:fE S 6 8=false:=hd8
    have e10:fE S 6 10=false:=hd10;rw[e8,e10];exact⟨hown',k90.grown happ.grown (fun e=>aq3.xj e.symm),⟨pw3.an.grown happ.grown (fun e=>by have:=hown.aQ _ e.symm;omega),pw3.rd.below (happ.below.mono (by omega)),pw3.cj,pw3.cD⟩,((Kp.refl wa).fz pw.an hXa.fz).app hown happ,(hXa.fz.less hh).trans (Fz.of happ.below),hs4,fun b h1 _ h3=>happ.grown.block b h1 (fun e=>h3 e.symm),hv'.elim (fun e=> .inl e) (fun e=> .inr (by injection e)),hgvne⟩
  |7,ho=>
   injection ho with ho
   subst ho;intro σ S w hS hpre hdc hX;refine Seq.val (aa.aU rfl rfl rfl Tryz.underlying68 (s:=4) (by kernel_rfl) (j:=es.length) rfl (by omega)) rfl rfl rfl (Seq.nil ?_);exact ab.aG rfl rfl rfl hpre rfl (fun _ _=>rfl) hX
  |8,ho=>
   injection ho with ho
   subst ho;intro σ S w hS hpre hdc hX;obtain⟨x,q,hr,hXa,hB⟩:=hX.2 (hpre 6 (ax rfl));obtain⟨x',q',hr',hp',hrep,haway'⟩:=hXa.post rfl;have hones:=hrep.bt
   have hB8:Own w h0 105 4 (.slice (some ⟨σ.2.2.2.1,0,none⟩) (es.length+1) σ.2.2.2.2.1) (es.length+1) (aC evs++[.int .i64 0, .int .i64 0, .string {data:= #[]}, .slice none 0 0]):=by
    have:=hB.own;rw[hS] at this;exact this
   have hlv:(aC evs).length=es.length*4:=aq.fo.row.1;obtain⟨gv,cap,cur,hvv,hgv,hgvl,kv,hfit,hset⟩:=hB8.mo hlv;have hgv2:σ.2.2.2.1=gv:=by injection hvv with h1;injection h1 with h1;injection h1
   rw[←hgv2] at hgv hgvl kv hset;have haddr:(⟨σ.2.2.2.1,0,none⟩:Addr).add (es.length*4)=⟨σ.2.2.2.1,es.length*4,none⟩:=by unfold Addr.add;split<;>simp_all
   refine Seq.ij (g:=σ.2.2.2.1) (off:=es.length*4) rfl (congrArg (fun a=>some (Value.pointer (some a))) haddr) rfl rfl (m:=4) (by kernel_rfl) hones.1 (fS hones.2) kv (by rw[hones.1];exact hfit) rfl rfl ?_;intro w6 p6;refine Seq.nil ?_;have hne:=hB.ne;have hsz:=hXa.fz.size;have hown6:=hset w6 σ.1.cells hones.1 p6;have hcv:cap=σ.2.2.2.2.1:=by injection hvv with _ _ h3;exact h3.symm
   refine ab.jt (σ:=σ) (σ':=σ) rfl rfl rfl (fun _ _=>rfl) ⟨(fun h=>by have h:S 6=false:=h;rw[hpre 6 (ax rfl)] at h;cases h),fun _=>⟨x,q,hr,hXa,?_⟩⟩
   exact⟨by have:=hown6;exact this,hB.box.put p6 (fun e=>hne e.symm),⟨hB.pw.an.put p6 (by omega),hB.pw.rd.below (p6.below (by omega) hgvl),hB.pw.cj,hB.pw.cD⟩,hB.kp.put kv p6 hgv,hB.fz.put kv p6 hgv,Nat.le_trans hB.hs (Nat.le_of_eq p6.size.symm),fun b h1 h2 h3=>(p6.grown.block b (Nat.lt_of_lt_of_le h1 hB.hs) (fun e=>by
    injection e with e
    rcases hB.hv with e'|e'
    ·exact h3 (by rw[←e',e])
    ·omega)).trans (hB.hb b h1 h2 h3),hB.hv,hne⟩
  |9,ho=>
   injection ho with ho
   subst ho;intro σ S w hS hpre hdc hX;refine Seq.val (aa.eX 3 rfl rfl Tryz.underlying105 rfl (by kernel_rfl)) rfl rfl rfl (Seq.nil ?_);exact ab.aG rfl rfl rfl hpre rfl (fun _ _=>rfl) hX
  |10,ho=>
   injection ho with ho
   subst ho;intro σ S w hS hpre hdc hX;obtain⟨x,q,hr,hXa,hB⟩:=hX.2 (hpre 6 (ax rfl));have hbox:=hB.box;refine Zq hbox ?_;intro w6 p6;refine Seq.nil ?_;have hne:=hB.ne;have hown:=hB.own;refine ab.jt (σ:=σ) (σ':=σ) rfl rfl rfl (fun _ _=>rfl) ⟨(fun h=>by have h:S 6=false:=h;rw[hpre 6 (ax rfl)] at h;cases h),fun _=>⟨x,q,hr,hXa,?_⟩⟩
   exact⟨hown.eO (Nat.le_of_eq p6.size.symm) (fun b e=>p6.grown.block b (hown.aQ b e).2 (fun e'=>by
    have e1:σ.2.2.2.1=b:=by injection e
    have e2:b=gt:=by injection e'
    exact hne (e1.trans e2))),p6.an,⟨hB.pw.an.put p6 (by omega),hB.pw.rd.below (p6.below (by omega) hbox.lt),hB.pw.cj,hB.pw.cD⟩,hB.kp.put hbox p6 hgt,hB.fz.put hbox p6 hgt,Nat.le_trans hB.hs (Nat.le_of_eq p6.size.symm),fun b h1 h2 h3=>(p6.grown.block b (Nat.lt_of_lt_of_le h1 hB.hs) (fun e=>h2 (by injection e))).trans (hB.hb b h1 h2 h3),hB.hv,hne⟩
  |k+11,ho=>simp at ho
 rintro⟨v5,S5,g7,gv,cap,W3⟩ S w9 hS hX;obtain⟨x,q,hr,hXa,hB⟩:=hX.2 (hS 6 (by decide));obtain⟨x',q',hr',-,hrep,haway⟩:=hXa.post rfl;rw[hr] at hr';injection hr' with e1 e2
 subst e1 e2;dsimp only at hrep haway hXa hB;rw[hS 8 (by decide),hS 10 (by decide)] at hB;have aq3:=aq.fz hXa.fz hg0;have hsz:=hXa.fz.size;rw[hr]
 have hfin:=aq3.Af hrep (fun b hb=>⟨by have:=(haway b hb).1;omega,(haway b hb).2,by have:=(haway b hb).1;omega,fun e=>by have:=(aq.fo.aQ b e).2;have:=(haway b hb).1;omega,fun e=>by cases e⟩) hB.own hB.hs
  (fun b _ h2 h3 h4=>hB.hb b h2 h3 h4) (hB.hv.elim .inl fun e=> .inr ⟨_,rfl,Nat.le_of_eq e.symm⟩) (by omega)
 refine cZ 0 1 ?_;refine ab.du rfl (.inr rfl) ?_;exact⟨hB.fz,_,rfl,hB.pw,hB.kp,_,_,_,hB.box,hfin⟩
section
variable {W:World} {h gt:Nat} {es:List Ex} {ts:List Tm} {evs tvs:List Value} {vE vT:Value} {S:Nat→Prop}
theorem Own.rows {B n size:Nat}{e:TypeId}{v:Value}{xs:List Value}{S':Nat→Prop}(o:Own W B e size v n xs)(hS:∀b,v.ownBlock=some b→S' b):∃A c,v= .slice A n c∧Rows W S' A xs:=by
 obtain⟨h1,⟨rfl,rfl⟩|⟨g,cap,cur,rfl,e2,e3,e4,e5,e6,e7⟩⟩:=o.row
 ·refine⟨none,0,rfl,fun hne=> ?_⟩
  rw[Nat.zero_mul] at h1;exact absurd (List.eq_nil_of_length_eq_zero h1) hne
 ·obtain⟨A,c,hv,hr⟩:=o.reads
  injection hv with e1 _ _
  subst e1;refine⟨_,cap,rfl,fun hne=> ?_⟩;rcases Nat.eq_zero_or_pos n with h0|h0
  ·subst h0
   rw[Nat.zero_mul] at h1;exact absurd (List.eq_nil_of_length_eq_zero h1) hne
  ·obtain⟨ad,hA,hb,hc⟩:=hr.2 h0
   injection hA with hA
   subst hA;exact⟨_,rfl,hS _ rfl,hc⟩
def pA (S:Nat→Prop)(vE vT:Value)(b:Nat):Prop:=S b∨vE.ownBlock=some b∨vT.ownBlock=some b
theorem cW.bounds (a:cW W h gt es ts evs tvs vE vT S):∀b,pA S vE vT b→h≤b∧b<W.heap.size∧b≠gt:=fun b hb=>by
 rcases hb with hb|hb|hb
 ·obtain⟨h1,h2,h3,-,-⟩:=a.iD b hb
  exact⟨h1,h2,h3⟩
 ·obtain⟨h1,h2⟩:=a.fo.aQ b hb
  exact⟨h1,h2,fun e=>a.xj (by rw[hb,e])⟩
 ·obtain⟨h1,h2⟩:=a.iE.aQ b hb
  exact⟨h1,h2,fun e=>a.zs (by rw[hb,e])⟩
theorem cW.ex (a:cW W h gt es ts evs tvs vE vT S)(op z:Int)(nm:List Nat)(h1:bu op)(h2:bu z)(h3:∀d∈nm,d<256)(h4:nm.length≤9223372036854775807)(hl:es.length≤1000):bX W (pA S vE vT) (.mk op z nm es) (.agg #[.int .i64 op, .int .i64 z, .string (strOf nm),vE]):=by
 obtain⟨A,c,hv,hr⟩:=a.fo.rows (S':=pA S vE vT) (fun b hb=> .inr (.inl hb));rw[hv];rw[hv] at hr a;exact bX.mk a.r6 hl h1 h2 h3 h4 (fun i e v e1 e2=>(a.xG i e v e1 e2).mono (fun _ h=> .inl h) (fun _ _=>rfl)) hr
theorem cW.tm (a:cW W h gt es ts evs tvs vE vT S)(op:Int)(nm:List Nat)(h1:bu op)(h3:∀d∈nm,d<256)(h4:nm.length≤9223372036854775807)(hl:es.length≤1000)(hl':ts.length≤1000):dC W (pA S vE vT) (.mk op nm es ts) (.agg #[.int .i64 op, .string (strOf nm),vE,vT]):=by
 obtain⟨A,c,hv,hr⟩:=a.fo.rows (S':=pA S vE vT) (fun b hb=> .inr (.inl hb));obtain⟨A',c',hv',hr'⟩:=a.iE.rows (S':=pA S vE vT) (fun b hb=> .inr (.inr hb));rw[hv,hv'];rw[hv,hv'] at hr hr' a;exact dC.mk a.r6 a.s5 hl hl' h1 h3 h4 (fun i e v e1 e2=>(a.xG i e v e1 e2).mono (fun _ h=> .inl h) (fun _ _=>rfl)) (fun i e v e1 e2=>(a.zz i e v e1 e2).mono (fun _ h=> .inl h) (fun _ _=>rfl)) hr hr'
end
theorem cW.nil (W:World)(h gt:Nat):cW W h gt [] [] [] [] (.slice none 0 0) (.slice none 0 0) (fun _=>False):=
 ⟨rfl,rfl,Own.nil _ _ _ _,Own.nil _ _ _ _,fun i e v h1=>by simp at h1,fun i e v h1=>by simp at h1,fun b h=>h.elim,(by intro h;cases h),(by intro h;cases h)⟩
theorem vr:∀args w,(callFunc 242 args).run Tryz.prog w= .ok (.enter 242 args) w:=fun args w=>aF Tryz.func242 (by kernel_rfl) rfl args w
theorem cO:br Tryz.prog 1=some (some .nilFunc):=by kernel_rfl
theorem jF (a:Int)(w:World):(Instr.build 105 #[(0, .int .i64 a)]).run Tryz.prog w= .ok (.agg #[.int .i64 a, .int .i64 0, .string (strOf []), .slice none 0 0]) w:=by
 have hu:=Tryz.underlying105
 go_simp
 rfl
theorem og {α:Type}(ws:List Wd):∀(bt:List (Nat→Nat→Rs α)) (first:Bool) (p d:Nat) (xs:List α) (q:Nat),cn ws bt first p d= .ok xs q→xs.length=bt.length
 | [],_,p,d,xs,q,h=>by
  unfold cn at h;injection h with h
  rw[←h];rfl
 |one::r,first,p,d,xs,q,h=>by
  rw[iI] at h
  cases h1:(if first=true then Rs.ok () p else dO ws [44] p) with
  |out=>rw[h1] at h;cases h
  |bad a b=>rw[h1] at h;cases h
  |ok u p1=>
   rw[h1,Rs.eJ] at h
   cases h2:one p1 d with
   |out=>rw[h2] at h;cases h
   |bad a b=>rw[h2] at h;cases h
   |ok x p2=>
    rw[h2,Rs.eJ] at h
    cases h3:cn ws r false p2 d with
    |out=>rw[h3] at h;cases h
    |bad a b=>rw[h3] at h;cases h
    |ok ys p3=>
     rw[h3,Rs.eJ] at h;injection h with h _
     rw[←h,List.length_cons,List.length_cons,og ws r false p2 d ys p3 h3]
theorem fQ {α:Type}{ws:List Wd}{bt:List (Nat→Nat→Rs α)}{p d:Nat}{xs:List α}{q:Nat}(h:bW ws bt p d= .ok xs q):xs.length=bt.length:=by
 unfold bW at h
 cases h1:dO ws [40] p with
 |out=>rw[h1] at h;cases h
 |bad a b=>rw[h1] at h;cases h
 |ok u p1=>
  rw[h1,Rs.eJ] at h
  cases h2:dX p1 d with
  |out=>rw[h2] at h;cases h
  |bad a b=>rw[h2] at h;cases h
  |ok u p2=>
   rw[h2,Rs.eJ] at h
   cases h3:cn ws bt true p2 (d+1) with
   |out=>rw[h3] at h;cases h
   |bad a b=>rw[h3] at h;cases h
   |ok ys p3=>
    rw[h3,Rs.eJ] at h
    cases h4:dO ws [41] p3 with
    |out=>rw[h4] at h;cases h
    |bad a b=>rw[h4] at h;cases h
    |ok u p4=>
     rw[h4,Rs.eJ] at h;injection h with h _
     rw[←h];exact og ws bt true p2 (d+1) ys p3 h3
theorem Kp.own {w W:World}{B n size:Nat}{e:TypeId}{v:Value}{xs:List Value}(a:Kp w W)(o:Own w B e size v n xs)(h1:e≠71:=by decide)(h2:e≠105:=by decide)(h3:e≠219:=by decide):Own W B e size v n xs:=by
 obtain⟨r1,⟨r2,r3⟩|⟨g,cap,cur,rfl,e2,e3,e4⟩⟩:=o.row
 ·exact⟨r1, .inl ⟨r2,r3⟩⟩
 ·exact⟨r1, .inr ⟨g,cap,cur,rfl,e2,a.bL g e cur e3 h1 h2 h3,e4⟩⟩
def zy (K:Ctx)(E0:Nat→Nat→Rs Ex):Prop:=∀p d W,PW K W p d false→E0 p d≠ .out→Calls Tryz.prog 151 #[.pointer (some ⟨K.g,0,none⟩), .int .i64 0] W (PR K W d (E0 p d) (yl W))
theorem j5 (K:Ctx)(hK:K.Ok)(E0:Nat→Nat→Rs Ex)(hE:zy K E0)(op:Int)(k p d:Nat)(w:World)(pw:PW K w p d false)(hp:p+1≤K.ws.length)(hop:bu op)(hk:k≤3)(hne:dn K.ws E0 op k p d≠ .out):
  Calls Tryz.prog 237 #[.pointer (some ⟨K.g,0,none⟩), .int .i64 op, .int .i64 (k:Int)] w (PR K w d (dn K.ws E0 op k p d) (yl w)):=by
 have bel:=Fz.refl w.heap.size K.g w;have k99:=pw.an;have e99:K.g=K.g:=rfl;have hlt:=pw.an.lt;have hlen:=hK.len;have hle:=hK.le;refine Zs 30 Tryz.func237 ?_;refine ah ?_;refine Seq.box rfl rfl rfl rfl rfl ?_;intro g3 w1 n3;have e3:=Nat.le_trans bel.size n3.ge;have l3:=Nat.lt_of_lt_of_le k99.lt n3.ge;replace bel:=bel.step n3.below;replace k99:=k99.step n3.below;have k3:=n3.an;refine Zl au ?_;intro g6 w2 n6;have e6:=Nat.le_trans bel.size n6.ge;have l6:=Nat.lt_of_lt_of_le k3.lt n6.ge;replace bel:=bel.step n6.below;replace k99:=k99.step n6.below;replace k3:=k3.step n6.below;have k6:=n6.an;refine aL 0 1 2 3 6 (az ?_);refine ZL Tryz.underlying189 k3 ?_;refine Zv (aa.nilCheck rfl rfl) ?_;refine Zf 1 Tryz.underlying219 ?_;refine ZL Tryz.underlying3 k99 ?_;refine dq ?_;refine Zv (aa.nilCheck rfl rfl) ?_;refine Zf 1 Tryz.underlying219 ?_;refine Zq k99 ?_;intro w3 pw3;replace bel:=bel.put k99 pw3 e99;replace k3:=k3.put pw3 (by omega);replace k6:=k6.put pw3 (by omega);replace k99:=pw3.an;refine aL 0 1 2 3 6 (az ?_);refine Zm ?_;refine Zv (aa.build rfl rfl (jF op _)) ?_;refine Zl au ?_;intro g7 w4 n7;have e7:=Nat.le_trans bel.size n7.ge;have l7:=Nat.lt_of_lt_of_le k6.lt n7.ge;replace bel:=bel.step n7.below;replace k99:=k99.step n7.below;replace k3:=k3.step n7.below;replace k6:=k6.step n7.below;have k7:=n7.an;refine Zo 4 k7 ?_;intro w5 pw5;replace bel:=bel.put k7 pw5 e7;replace k99:=k99.put pw5 (by omega);replace k3:=k3.put pw5 (by omega);replace k6:=k6.put pw5 (by omega);replace k7:=pw5.an;refine aV 0 1 2 3 6 7 (az ?_);refine Za ?_;refine ba 0 1 2 3 6 7 8 (aH (ah ?_));refine Zm ?_;refine Zm ?_;refine cw 0 1 2 3 6 7 8 18 19 (Zt (Cd.block ?_));have pwl:=pw.next hle hp bel k99;obtain⟨wl,hwl⟩:∃wl,wl=w5:=⟨_,rfl⟩;rw[←hwl] at pwl bel k3 k6 k7 k99⊢;have bel0:=bel;have l37:g3<g7:=by omega
 have hgg7:K.g<g7:=by omega
 have hs0:=bel.size;replace bel:=Below.refl wl.heap.size wl;refine Cd.loop (σ:=Nat × Value) (fun s=>[(3, .pointer (some ⟨g3,0,none⟩)),(6, .pointer (some ⟨g6,0,none⟩)),(7, .pointer (some ⟨g7,0,none⟩)),(8,s.2),(18, .int .i64 (k:Int)),(19, .int .i64 (s.1:Int))]) (fun s wr=>s.1≤k∧Below wl.heap.size wl wr∧Own wr wl.heap.size 1 1 s.2 s.1 (List.replicate s.1 (.func (.func 242) #[] #[.pointer (some ⟨g7,0,none⟩), .pointer (some ⟨g3,0,none⟩)]))) (fun s=>k-s.1) (0, .slice none 0 0) ⟨Nat.zero_le _,bel,Own.nil _ _ _ _⟩ ⟨rfl,rfl,rfl,rfl,rfl,rfl,trivial⟩ ?_;clear bel;rintro⟨i,v⟩ wr ⟨hi,bel,own⟩;dsimp only at hi own⊢;refine ah ?_;refine eU ?_;refine ba 3 6 7 8 18 19 20 (aH ?_);refine Cd.ao rfl (fun hc=> ?_) (fun hc=> ?_)
 ·skip
  refine Cd.skip (aH (Cd.block (Zr ?_)));refine Zm ?_;refine Zv (aa.makeFunc (v:= .func (.func 242) #[] #[.pointer (some ⟨g7,0,none⟩), .pointer (some ⟨g3,0,none⟩)]) rfl (show fc _ _=some [] from rfl) (show fc _ _=some [.pointer (some ⟨g7,0,none⟩), .pointer (some ⟨g3,0,none⟩)] from rfl) rfl) ?_;refine Seq.slice (vs:=[_]) (s:=1) rfl rfl rfl Tryz.underlying225 (by kernel_rfl) (cO) (by omega) (by omega) ⟨rfl,trivial⟩ rfl rfl rfl ?_;intro g23 w6 n23;have e23:=Nat.le_trans bel.size n23.ge;replace bel:=bel.step n23.below;replace own:=own.step n23.below;have k23:=n23.an;refine Seq.append rfl rfl rfl Tryz.underlying225 (by kernel_rfl) cO rfl (by decide) (b:=8) (by kernel_rfl) own (Reads.an k23 1 rfl) (by intro x hx;simp[aC,Value.cells] at hx;rw[hx];rfl) bel.size (by simp only[maxLen];omega) (by omega) rfl rfl rfl ?_;clear own;intro vw7 w7 own haw7;replace bel:=bel.trans haw7.below;refine Za ?_;refine ba 3 6 7 8 18 19 20 (ab.ag (et ?_));refine dq ?_;refine Zm ?_;refine ba 3 6 7 8 18 19 20 ?_;refine ab.round (i+1,_) ⟨rfl,rfl,rfl,rfl,rfl,rfl,trivial⟩ ⟨by dsimp only;omega,bel,?_⟩ (by dsimp only;omega);dsimp only;rw[List.replicate_succ'];exact own
 obtain rfl:i=k:=by omega
 have pw9:=pwl.step hle bel;replace k3:=k3.step bel;replace k6:=k6.step bel;replace k7:=k7.step bel;obtain⟨AP,cP,rfl,-⟩:=own.reads;have hsr:=bel.size;obtain⟨R,hR⟩:∃R,R=bW K.ws (List.replicate i E0) (p+1) d:=⟨_,rfl⟩;have hcd:dn K.ws E0 op i p d=R.bind fun xs p=> .ok (.mk op 0 [] xs) p:=by rw[hR];rfl
 have hneR:R≠ .out:=Rs.dP (by rw[←hcd];exact hne);have hfl:(List.replicate i (242,[Value.pointer (some ⟨g7,0,none⟩),Value.pointer (some ⟨g3,0,none⟩)])).length=i:=List.length_replicate
 have hrepl:∀ {β:Type} {x y:β} {j:Nat},(List.replicate i x)[j]? =some y→y=x∧j<i:=fun {β x y j} h=>by
  have h1:=(List.getElem?_eq_some_iff.1 h).1;rw[List.length_replicate] at h1;rw[List.getElem?_replicate,if_pos h1] at h;injection h with h
  exact⟨h.symm,h1⟩
 have hwi:=gX K hK g7 (List.replicate i E0) (List.replicate i (242,[Value.pointer (some ⟨g7,0,none⟩),Value.pointer (some ⟨g3,0,none⟩)])) AP cP
  (fun xs W=>Kp wr W∧∃evs vE S,aE W g7 105 #[.int .i64 op, .int .i64 0, .string (strOf []),vE]∧cW W g7 g7 xs [] evs [] vE (.slice none 0 0) S) (p+1) d wr pw9 (by have:=k7.lt;omega) (by rw[List.length_replicate,List.length_replicate]) (by rw[List.length_replicate];omega)
  ⟨Kp.refl wr,[],_,_,k7,cW.nil wr g7 g7⟩
  (fun xs W W' p d hM hp hf=>by
   obtain⟨kp,evs,vE,S,kt,aq⟩:=hM;exact⟨kp.fz hp.an hf,evs,vE,S,kt.fz hf (by omega),aq.fz hf hgg7⟩)
  (fun xs W j f cp hM hj=>by
   obtain⟨kp,-⟩:=hM;obtain⟨e1,hji⟩:=hrepl hj;injection e1 with e1 e2
   subst e1 e2;obtain⟨A',c',hv,hr⟩:=(kp.own own).reads;injection hv with hv _ _
   subst hv;obtain⟨ad,hA,-,hc⟩:=hr.2 (by omega);exact⟨ad,hA,hc j _ (by rw[List.getElem?_replicate,if_pos hji])⟩)
  (fun j f cp hj=>by
   obtain⟨e1,-⟩:=hrepl hj;injection e1 with e1 e2
   subst e1;exact vr)
  (fun j f cp one hj ho xs W p' hxl hpw hW hM hne1=>by
   obtain⟨e1,hji⟩:=hrepl hj;injection e1 with e1 e2
   subst e1 e2;obtain⟨e3,-⟩:=hrepl ho;subst e3;obtain⟨kp,evs,vE,S,kt,aq⟩:=hM;exact(rY K hK g7 g7 g3 (d+1) p' op 0 [] xs evs vE S one W hpw hgg7 (Nat.le_refl _) hW kt (kp.an k3) aq (by omega) (fun W' h1 _=>hE p' (d+1) W' h1 hne1) hne1).mono fun e W' hq=>hq.mono fun a v W' h=>⟨kp.trans h.1,h.2⟩)
  (by rw[←hR];exact hneR)
 rw[←hR,hfl] at hwi;have e0:Fz w.heap.size K.g w wr:=bel0.step bel;refine Cd.exit (ab.aD (ab.ay (ab.aA (az ?_))));refine ZL Tryz.underlying189 k3 ?_;refine Zm ?_;rcases Rs.bZ hneR with ⟨q,ov,hr⟩|⟨xs,q,hr⟩
 ·rw[hr] at hwi hcd
  refine Seq.bJ (Ze Tryz.func166) rfl hwi ?_;rintro e w6 ⟨hf,rfl,d6,hp6⟩;refine⟨_,rfl,fun a ha=>⟨ha.defers,?_⟩⟩;rw[hcd];exact⟨e0.trans (hf.less (by omega)),rfl,d6,hp6⟩
 rw[hr] at hwi hcd;replace hcd:dn K.ws E0 op i p d= .ok (.mk op 0 [] xs) q:=hcd;have k6lt:g6<g7:=by omega
 refine Zc (Ze Tryz.func166) (hwi) ?_;rintro e wq ⟨hf,v6,rfl,pwq,kp6,evs,vE,S,kt6,aq6⟩;refine⟨_,rfl,?_⟩
 have k66:aE wq g6 105 #[.int .i64 0, .int .i64 0, .string {data:= #[]}, .slice none 0 0]:=by
  have k6:aE wr g6 105 #[.int .i64 0, .int .i64 0, .string {data:= #[]}, .slice none 0 0]:=k6;have h1:=hf.block g6 k6lt (by omega);unfold aE at k6⊢;rw[h1];exact k6
 have e1:Fz w.heap.size K.g w wq:=e0.trans (hf.less (by omega));clear hwi;obtain⟨AX,cX,hvX,-⟩:=aq6.fo.reads;subst hvX;clear k6 k7 bel bel0 k3;have k6:=k66;have k7:=kt6;have bel:=e1
 have hxl:xs.length=i:=by
  have:=fQ (hR.symm.trans hr);rw[List.length_replicate] at this;exact this
 have e6:w.heap.size≤g6:=by omega
 have hrx:=aq6.ex op 0 [] hop (by unfold bu;omega) (by simp) (by simp) (by omega);have hbn:=aq6.bounds;have hlq:=k6.lt;refine ba 3 6 7 8 18 19 20 (az ?_);refine ZW 4 Tryz.underlying105 k7 ?_;refine Zo 4 k6 ?_;intro w6 pw6;replace bel:=bel.put k6 pw6 e6;replace k7:=k7.put pw6 (by omega);replace k6:=pw6.an;refine ba 3 6 7 8 18 19 20 (Zt (Cd.ret ?_));refine iH 4 k6 Tryz.underlying105 ?_;rw[hcd];have hsz:=pw6.size;refine⟨bel,_,rfl,⟨pwq.an.put pw6 (by omega),pwq.rd.below (pw6.below (by omega) hlq),pwq.cj,pwq.cD⟩,_,hrx.mono (fun _ h=>h) (fun a ha=>World.cell?_of_block (pw6.grown.block _ (hbn _ ha).2.1 (fun e=>by injection e with e;have:=(hbn _ ha).1;omega))),fun b hb=> ?_⟩;obtain⟨h1,h2,-⟩:=hbn b hb;exact⟨by omega,by omega⟩
theorem gI.all {w w':World}{g m:Nat}{T:TypeId}{cs vc:Array Value}(p:gI w w' g T (cs.toList.take 0++(vc.toList++cs.toList.drop (0+vc.size))).toArray)(h1:vc.size=m)(h2:cs.size=m):aE w' g T vc:=by
 have hcells:(cs.toList.take 0++(vc.toList++cs.toList.drop (0+vc.size))).toArray=vc:=by
  have:cs.toList.drop (0+vc.size)=[]:=List.drop_of_length_le (by rw[h1];simp[h2]);rw[this];simp
 have:=p.an
 rwa [hcells] at this
theorem PW.to {K:Ctx}{w W:World}{p d:Nat}{ov:Bool}(h:PW K w p d ov)(hK:K.B≤K.g)(bel:Fz w.heap.size K.g w W)(hb:aE W K.g 219 #[.slice K.A K.ws.length K.c, .int .i64 (p:Int), .int .i64 (d:Int), .bool ov, .int .i64 (K.en:Int)]):PW K W p d ov:=
 ⟨hb,h.rd.below (bel.below (by have:=h.an.lt;omega) hK),h.cj,h.cD⟩
theorem yB:∀args w,(callFunc 238 args).run Tryz.prog w= .ok (.enter 238 args) w:=fun args w=>aF Tryz.func238 (by kernel_rfl) rfl args w
theorem qn (a:Int)(s:List Nat)(w:World):(Instr.build 105 #[(0, .int .i64 a),(2, .string (strOf s))]).run Tryz.prog w= .ok (.agg #[.int .i64 a, .int .i64 0, .string (strOf s), .slice none 0 0]) w:=by
 have hu:=Tryz.underlying105
 go_simp
def vS (h g:Nat)(xs:List Ex)(W:World):Prop:=∃cs,aE W g 105 cs∧cs.size=4∧∀x,xs[0]? =some x→∃(S:Nat→Prop) (v:Value),cs=v.cells∧bX W S x v∧∀b,S b→h≤b∧b<W.heap.size∧b≠g
theorem vS.fz {h g q:Nat}{xs:List Ex}{W W':World}(m:vS h g xs W)(f:Fz W.heap.size q W W')(hq:q<h)(hg:h≤g):vS h g xs W':=by
 obtain⟨cs,h1,h2,h3⟩:=m;refine⟨cs,h1.fz f (by omega),h2,fun x hx=> ?_⟩;obtain⟨S,v,e1,e2,e3⟩:=h3 x hx;refine⟨S,v,e1,e2.mono (fun _ h=>h) (fun a ha=>World.cell?_of_block (f.block _ (e3 _ ha).2.1 (by have:=(e3 _ ha).1;omega))),fun b hb=> ?_⟩;obtain⟨b1,b2,b3⟩:=e3 b hb;exact⟨b1,Nat.lt_of_lt_of_le b2 f.size,b3⟩
theorem vk (K:Ctx)(hK:K.Ok)(h0 b1 gt d p:Nat)(T:Nat→Nat→Rs Ex)(w:World)(pw:PW K w p d false)(hg0:K.g<h0)(hgt:h0≤gt)(hh:h0≤w.heap.size)(kb1:aE w b1 189 #[.pointer (some ⟨K.g,0,none⟩)]) (kt:vS h0 gt [] w)
  (hc:∀W,PW K W p d false→Fz w.heap.size K.g w W→Calls Tryz.prog 151 #[.pointer (some ⟨K.g,0,none⟩), .int .i64 0] W (PR K W d (T p d) (yl W))) (hne:T p d≠ .out):
  Calls Tryz.prog 238 #[.pointer (some ⟨b1,0,none⟩), .pointer (some ⟨gt,0,none⟩)] w (qM K h0 w d (T p d) fun x _ W'=>Kp w W'∧vS h0 gt [x] W'):=by
 have hle:=hK.le;have bel:=Fz.refl w.heap.size K.g w;have k1:=kb1;have hcl:=hc w pw bel;refine Zs 4 Tryz.func238 ?_;refine Zr ?_;refine ZL Tryz.underlying189 k1 ?_;rcases Rs.bZ hne with ⟨q,ov,hr⟩|⟨x,q,hr⟩
 ·rw[hr] at hcl
  refine Seq.bJ (Ze Tryz.func151) rfl hcl ?_;rintro e w6 ⟨hf,rfl,d6,hp6⟩;refine⟨_,rfl,fun a ha=>⟨ha.defers,?_⟩⟩;rw[hr];exact⟨hf.less hh,rfl,d6,hp6⟩
 rw[hr] at hcl⊢;refine Zc (Ze Tryz.func151) (hcl) ?_;rintro e wq ⟨hf,v6,rfl,pwq,S,hrep,hb⟩;refine⟨_,rfl,?_⟩;obtain⟨cs,h1,h2,-⟩:=kt;have kq:=h1.fz hf (by omega);have hones:=hrep.bt;have hlt:=h1.lt;refine Seq.ij rfl rfl rfl rfl (m:=4) (by kernel_rfl) hones.1 (fS hones.2) kq (by rw[hones.1,h2];omega) rfl rfl ?_;intro w7 p7;refine cZ 0 1 ?_;refine ab.du rfl (.inr rfl) ?_;have hs:=p7.size
 have hcells:(cs.toList.take 0++(v6.cells.toList++cs.toList.drop (0+v6.cells.size))).toArray=v6.cells:=by
  have:cs.toList.drop (0+v6.cells.size)=[]:=List.drop_of_length_le (by rw[hones.1];simp[h2]);rw[this];simp
 have kb:=p7.an;rw[hcells] at kb;refine⟨(hf.less hh).trans ((Fz.refl h0 K.g wq).put kq p7 hgt),_,rfl,⟨pwq.an.put p7 (by omega),pwq.rd.below (p7.below (by omega) kq.lt),pwq.cj,pwq.cD⟩,((Kp.refl w).fz pw.an hf).put kq p7 hgt,_,kb,hones.1,fun y hy=> ?_⟩;simp at hy;subst hy;exact⟨S,v6,rfl,hrep.mono (fun _ h=>h) (fun a ha=>World.cell?_of_block (p7.grown.block _ (hb _ ha).2 (fun e=>by injection e with e;have:=(hb _ ha).1;omega))),fun b hb'=>⟨by have:=(hb b hb').1;omega,by have:=(hb b hb').2;omega,by have:=(hb b hb').1;omega⟩⟩
theorem yh (K:Ctx)(hK:K.Ok)(E0:Nat→Nat→Rs Ex)(hE:zy K E0)(p d:Nat)(w:World)(pw:PW K w p d false)(hne:iC K.ws E0 p d≠ .out):
  Calls Tryz.prog 222 #[.pointer (some ⟨K.g,0,none⟩)] w (PR K w d (iC K.ws E0 p d) (yl w)):=by
 have bel:=Fz.refl w.heap.size K.g w;have k99:=pw.an;have e99:K.g=K.g:=rfl;have hlt:=pw.an.lt;have hlen:=hK.len;have hle:=hK.le;have hpl:=pw.cj;obtain⟨a1,a2,a3,a4,a5⟩:=hK.at_ p;obtain⟨b1,b2,b3⟩:=K.ji p;have hw:=fun W h=>eR K hK p d false W h;unfold AO at hw
 have hq:iC K.ws E0 p d=if(K.at_ p).kind=1 then .ok (.mk 1 (K.at_ p).n [] []) (p+1) else if(K.at_ p).kind=2 then .ok (.mk 2 (K.at_ p).n [] []) (p+1) else if(K.at_ p).kind=3 then
   if(K.at_ p).text=Ak then .ok (.mk 4 0 [] []) (p+1) else if(K.at_ p).text=Ag then dn K.ws E0 9 2 p d else if(K.at_ p).text=zY then dn K.ws E0 10 2 p d else if(K.at_ p).text=BK then dn K.ws E0 21 3 p d else(eA K.ws p).bind fun nm p=> .ok (.mk 3 0 nm []) p
  else if(K.at_ p).kind=0 then(bW K.ws [E0] p d).bind fun xs p=> .ok (xs.getD 0 (.mk 0 0 [] [])) p else .bad p false:=by rw[b1,b2,b3];rfl
 have hp:(K.at_ p).kind≠ -1→p+1≤K.ws.length:=fun hk=>by
  rcases Nat.lt_or_ge p K.ws.length with h|h
  ·exact h
  ·exact absurd (by unfold Ctx.at_;rw[List.getD_eq_getElem?_getD,List.getElem?_eq_none h];rfl) hk
 refine Zs 58 Tryz.func222 ?_;refine ah ?_;refine Seq.box rfl rfl rfl rfl rfl ?_;intro g1 w1 n1;have e1:=Nat.le_trans bel.size n1.ge;have l1:=Nat.lt_of_lt_of_le k99.lt n1.ge;replace bel:=bel.step n1.below;replace k99:=k99.step n1.below;have k1:=n1.an;refine Zl au ?_;intro g2 w2 n2;have e2:=Nat.le_trans bel.size n2.ge;have l2:=Nat.lt_of_lt_of_le k1.lt n2.ge;replace bel:=bel.step n2.below;replace k99:=k99.step n2.below;replace k1:=k1.step n2.below;have k2:=n2.an;refine bk 0 1 2 (az ?_);refine ZL Tryz.underlying189 k1 ?_;refine Zc (Ze Tryz.func164) (hw _ (pw.to hle bel k99)) ?_;rintro e w5 ⟨rfl,hb5⟩;refine⟨_,rfl,?_⟩;replace bel:=bel.step hb5;replace k99:=k99.step hb5;replace k1:=k1.step hb5;replace k2:=k2.step hb5;refine Zl aZ ?_;intro g3 w3 n3;have e3:=Nat.le_trans bel.size n3.ge;have l3:=Nat.lt_of_lt_of_le k2.lt n3.ge;replace bel:=bel.step n3.below;replace k99:=k99.step n3.below;replace k1:=k1.step n3.below;replace k2:=k2.step n3.below;have k3:=n3.an;refine Zo 4 k3 ?_;intro w4 pw4;replace bel:=bel.put k3 pw4 e3;replace k99:=k99.put pw4 (by omega);replace k1:=k1.put pw4 (by omega);replace k2:=k2.put pw4 (by omega);replace k3:=pw4.an;refine aS 0 1 2 3 (az ?_);refine Zl au ?_;intro g4 w5 n4;have e4:=Nat.le_trans bel.size n4.ge;have l4:=Nat.lt_of_lt_of_le k3.lt n4.ge;replace bel:=bel.step n4.below;replace k99:=k99.step n4.below;replace k1:=k1.step n4.below;replace k2:=k2.step n4.below;replace k3:=k3.step n4.below;have k4:=n4.an;refine aL 0 1 2 3 4 (aH (ah ?_));refine Zf 0 Tryz.underlying221 ?_;refine ZL Tryz.underlying3 k3 ?_;refine aV 0 1 2 3 4 8 (Zt (Cd.block (ah ?_)));refine aX ?_;refine Za ?_;refine ba 0 1 2 3 4 8 11 (Zt ?_);refine Cd.ao rfl (fun c1=> ?_) (fun c1=> ?_)
 ·rw[if_pos c1] at hq
  have hp1:=hp (by omega);refine Zr ?_;refine Zf 2 Tryz.underlying221 ?_;refine ZL Tryz.underlying2 k3 ?_;refine Zv (aa.build rfl rfl (lJ 1 _ _)) ?_;refine Zo 4 k4 ?_;intro w6 pw6;replace bel:=bel.put k4 pw6 e4;replace k99:=k99.put pw6 (by omega);replace k1:=k1.put pw6 (by omega);replace k2:=k2.put pw6 (by omega);replace k3:=k3.put pw6 (by omega);replace k4:=pw6.an;refine ba 0 1 2 3 4 8 11 (ab.ag (az ?_));refine ZL Tryz.underlying189 k1 ?_;refine Zv (aa.nilCheck rfl rfl) ?_;refine Zf 1 Tryz.underlying219 ?_;refine ZL Tryz.underlying3 k99 ?_;refine dq ?_;refine Zv (aa.nilCheck rfl rfl) ?_;refine Zf 1 Tryz.underlying219 ?_;refine Zq k99 ?_;intro w7 pw7;replace bel:=bel.put k99 pw7 e99;replace k1:=k1.put pw7 (by omega);replace k2:=k2.put pw7 (by omega);replace k3:=k3.put pw7 (by omega);replace k4:=k4.put pw7 (by omega);replace k99:=pw7.an;refine ba 0 1 2 3 4 8 11 (az ?_);refine ZW 4 Tryz.underlying105 k4 ?_;refine Zo 4 k2 ?_;intro w8 pw8;replace bel:=bel.put k2 pw8 e2;replace k99:=k99.put pw8 (by omega);replace k1:=k1.put pw8 (by omega);replace k3:=k3.put pw8 (by omega);replace k4:=k4.put pw8 (by omega);replace k2:=pw8.an;refine ba 0 1 2 3 4 8 11 (Zt (Cd.ret ?_));refine iH 4 k2 Tryz.underlying105 ?_;rw[hq];exact⟨bel,_,rfl,pw.next hle hp1 bel k99,fun _=>False,bX.mk (args:=[]) (vs:=[]) rfl (by simp) (by unfold bu;omega) a2 (by simp) (by simp) (fun i e v h=>by simp at h) (fun h=>absurd rfl h),fun b hb=>hb.elim⟩
 rw[if_neg c1] at hq;refine ah ?_;refine aX ?_;refine Za ?_;refine bO 0 1 2 3 4 8 11 16 (Zt ?_);refine Cd.ao rfl (fun c2=> ?_) (fun c2=> ?_)
 ·rw[if_pos c2] at hq
  have hp1:=hp (by omega);refine Zr ?_;refine Zf 2 Tryz.underlying221 ?_;refine ZL Tryz.underlying2 k3 ?_;refine Zv (aa.build rfl rfl (lJ 2 _ _)) ?_;refine Zo 4 k4 ?_;intro w6 pw6;replace bel:=bel.put k4 pw6 e4;replace k99:=k99.put pw6 (by omega);replace k1:=k1.put pw6 (by omega);replace k2:=k2.put pw6 (by omega);replace k3:=k3.put pw6 (by omega);replace k4:=pw6.an;refine bO 0 1 2 3 4 8 11 16 (ab.ag (az ?_));refine ZL Tryz.underlying189 k1 ?_;refine Zv (aa.nilCheck rfl rfl) ?_;refine Zf 1 Tryz.underlying219 ?_;refine ZL Tryz.underlying3 k99 ?_;refine dq ?_;refine Zv (aa.nilCheck rfl rfl) ?_;refine Zf 1 Tryz.underlying219 ?_;refine Zq k99 ?_;intro w7 pw7;replace bel:=bel.put k99 pw7 e99;replace k1:=k1.put pw7 (by omega);replace k2:=k2.put pw7 (by omega);replace k3:=k3.put pw7 (by omega);replace k4:=k4.put pw7 (by omega);replace k99:=pw7.an;refine bO 0 1 2 3 4 8 11 16 (az ?_);refine ZW 4 Tryz.underlying105 k4 ?_;refine Zo 4 k2 ?_;intro w8 pw8;replace bel:=bel.put k2 pw8 e2;replace k99:=k99.put pw8 (by omega);replace k1:=k1.put pw8 (by omega);replace k3:=k3.put pw8 (by omega);replace k4:=k4.put pw8 (by omega);replace k2:=pw8.an;refine bO 0 1 2 3 4 8 11 16 (Zt (Cd.ret ?_));refine iH 4 k2 Tryz.underlying105 ?_;rw[hq];exact⟨bel,_,rfl,pw.next hle hp1 bel k99,fun _=>False,bX.mk (args:=[]) (vs:=[]) rfl (by simp) (by unfold bu;omega) a2 (by simp) (by simp) (fun i e v h=>by simp at h) (fun h=>absurd rfl h),fun b hb=>hb.elim⟩
 rw[if_neg c2] at hq;refine ah ?_;refine aX ?_;refine Za ?_;refine cw 0 1 2 3 4 8 11 16 21 (Zt ?_);refine Cd.ao rfl (fun c3=> ?_) (fun c3=> ?_)
 ·rw[if_pos c3] at hq
  have hp1:=hp (by omega);refine ah ?_;refine Zf 1 Tryz.underlying221 ?_;refine ZL Tryz.underlying9 k3 ?_;refine dr 0 1 2 3 4 8 11 16 21 24 (Zt (Cd.block (ah ?_)));refine Zv (aa.ck (b:=Ak) rfl rfl rfl a3 (by decide)) ?_;refine Za ?_;refine ct 0 1 2 3 4 8 11 16 21 24 28 (Zt ?_);refine Cd.ao rfl (fun c4=> ?_) (fun c4=> ?_)
  ·rw[if_pos c4] at hq
   refine Zr ?_;refine Zv (aa.build rfl rfl (jF 4 _)) ?_;refine Zo 4 k4 ?_;intro w6 pw6;replace bel:=bel.put k4 pw6 e4;replace k99:=k99.put pw6 (by omega);replace k1:=k1.put pw6 (by omega);replace k2:=k2.put pw6 (by omega);replace k3:=k3.put pw6 (by omega);replace k4:=pw6.an;refine ct 0 1 2 3 4 8 11 16 21 24 28 (ab.ag (ab.ag (az ?_)));refine ZL Tryz.underlying189 k1 ?_;refine Zv (aa.nilCheck rfl rfl) ?_;refine Zf 1 Tryz.underlying219 ?_;refine ZL Tryz.underlying3 k99 ?_;refine dq ?_;refine Zv (aa.nilCheck rfl rfl) ?_;refine Zf 1 Tryz.underlying219 ?_;refine Zq k99 ?_;intro w7 pw7;replace bel:=bel.put k99 pw7 e99;replace k1:=k1.put pw7 (by omega);replace k2:=k2.put pw7 (by omega);replace k3:=k3.put pw7 (by omega);replace k4:=k4.put pw7 (by omega);replace k99:=pw7.an;refine ct 0 1 2 3 4 8 11 16 21 24 28 (az ?_);refine ZW 4 Tryz.underlying105 k4 ?_;refine Zo 4 k2 ?_;intro w8 pw8;replace bel:=bel.put k2 pw8 e2;replace k99:=k99.put pw8 (by omega);replace k1:=k1.put pw8 (by omega);replace k3:=k3.put pw8 (by omega);replace k4:=k4.put pw8 (by omega);replace k2:=pw8.an;refine ct 0 1 2 3 4 8 11 16 21 24 28 (Zt (Cd.ret ?_));refine iH 4 k2 Tryz.underlying105 ?_;rw[hq];exact⟨bel,_,rfl,pw.next hle hp1 bel k99,fun _=>False,bX.mk (args:=[]) (vs:=[]) rfl (by simp) (by unfold bu;omega) (by unfold bu;omega) (by simp) (by simp) (fun i e v h=>by simp at h) (fun h=>absurd rfl h),fun b hb=>hb.elim⟩
  rw[if_neg c4] at hq;refine ah ?_;refine Zv (aa.ck (b:=Ag) rfl rfl rfl a3 (by decide)) ?_;refine Za ?_;refine eZ 0 1 2 3 4 8 11 16 21 24 28 31 (Zt ?_);refine Cd.ao rfl (fun c5=> ?_) (fun c5=> ?_)
  ·rw[if_pos c5] at hq
   refine ah ?_;refine ZL Tryz.underlying189 k1 ?_;have hcd:=j5 K hK E0 hE 9 2 p d _ (pw.to hle bel k99) hp1 (by unfold bu;omega) (by omega) (by rw[←hq];exact hne);rw[←hq] at hcd;have hs0:=bel.size;have hk2:=k2.lt;rcases Rs.bZ hne with ⟨q,ov,hr⟩|⟨x,q,hr⟩
   ·rw[hr] at hcd
    refine Seq.bJ (Ze Tryz.func237) rfl hcd ?_;rintro e w8 ⟨hf,rfl,d6,hp6⟩;refine⟨_,rfl,fun a ha=>⟨ha.defers,?_⟩⟩;rw[hr];exact⟨bel.call hf,rfl,d6,hp6⟩
   rw[hr] at hcd;refine Zc (Ze Tryz.func237) (hcd) ?_;rintro e wq ⟨hf,v6,rfl,pwq,S,hrep,hb⟩;refine⟨_,rfl,?_⟩;replace bel:=bel.call hf;replace k2:=k2.fz hf (by omega);have hones:=hrep.bt;refine Seq.ij rfl rfl rfl rfl (m:=4) (by kernel_rfl) hones.1 (fS hones.2) k2 (by rw[hones.1];exact Nat.le_refl _) rfl rfl ?_;intro w9 p9;have pw9:=p9.all hones.1 rfl;have pb9:=bel.put k2 p9 e2;have hlt2:=k2.lt;clear k2 bel;have k2:=pw9;have bel:=pb9;obtain⟨AX,cX,hvX⟩:=hrep.form;refine eZ 0 1 2 3 4 8 11 16 21 24 28 31 (Zt (Cd.ret (ab.af (ab.af (ab.ae ?_)))));subst hvX;refine iH 4 k2 Tryz.underlying105 ?_;rw[hr];refine⟨bel,_,rfl,⟨pwq.an.put p9 (by omega),pwq.rd.below (p9.below (by omega) hlt2),pwq.cj,pwq.cD⟩,S,hrep.mono (fun _ h=>h) (fun a ha=>World.cell?_of_block (p9.grown.block _ (hb _ ha).2 (fun e=>by injection e with e;have:=(hb _ ha).1;omega))),fun b hb'=> ?_⟩;obtain⟨h1,h2⟩:=hb b hb';have:=p9.size;exact⟨by omega,by omega⟩
  rw[if_neg c5] at hq;refine ah ?_;refine Zv (aa.ck (b:=zY) rfl rfl rfl a3 (by decide)) ?_;refine Za ?_;refine iW 0 1 2 3 4 8 11 16 21 24 28 31 35 (Zt ?_);refine Cd.ao rfl (fun c6=> ?_) (fun c6=> ?_)
  ·rw[if_pos c6] at hq
   refine ah ?_;refine ZL Tryz.underlying189 k1 ?_;have hcd:=j5 K hK E0 hE 10 2 p d _ (pw.to hle bel k99) hp1 (by unfold bu;omega) (by omega) (by rw[←hq];exact hne);rw[←hq] at hcd;have hs0:=bel.size;have hk2:=k2.lt;rcases Rs.bZ hne with ⟨q,ov,hr⟩|⟨x,q,hr⟩
   ·rw[hr] at hcd
    refine Seq.bJ (Ze Tryz.func237) rfl hcd ?_;rintro e w8 ⟨hf,rfl,d6,hp6⟩;refine⟨_,rfl,fun a ha=>⟨ha.defers,?_⟩⟩;rw[hr];exact⟨bel.call hf,rfl,d6,hp6⟩
   rw[hr] at hcd;refine Zc (Ze Tryz.func237) (hcd) ?_;rintro e wq ⟨hf,v6,rfl,pwq,S,hrep,hb⟩;refine⟨_,rfl,?_⟩;replace bel:=bel.call hf;replace k2:=k2.fz hf (by omega);have hones:=hrep.bt;refine Seq.ij rfl rfl rfl rfl (m:=4) (by kernel_rfl) hones.1 (fS hones.2) k2 (by rw[hones.1];exact Nat.le_refl _) rfl rfl ?_;intro w9 p9;have pw9:=p9.all hones.1 rfl;have pb9:=bel.put k2 p9 e2;have hlt2:=k2.lt;clear k2 bel;have k2:=pw9;have bel:=pb9;obtain⟨AX,cX,hvX⟩:=hrep.form;refine iW 0 1 2 3 4 8 11 16 21 24 28 31 35 (Zt (Cd.ret (ab.af (ab.af (ab.ae ?_)))));subst hvX;refine iH 4 k2 Tryz.underlying105 ?_;rw[hr];refine⟨bel,_,rfl,⟨pwq.an.put p9 (by omega),pwq.rd.below (p9.below (by omega) hlt2),pwq.cj,pwq.cD⟩,S,hrep.mono (fun _ h=>h) (fun a ha=>World.cell?_of_block (p9.grown.block _ (hb _ ha).2 (fun e=>by injection e with e;have:=(hb _ ha).1;omega))),fun b hb'=> ?_⟩;obtain⟨h1,h2⟩:=hb b hb';have:=p9.size;exact⟨by omega,by omega⟩
  rw[if_neg c6] at hq;refine ah ?_;refine Zv (aa.ck (b:=BK) rfl rfl rfl a3 (by decide)) ?_;refine Za ?_;refine gM 0 1 2 3 4 8 11 16 21 24 28 31 35 39 (Zt ?_);refine Cd.ao rfl (fun c7=> ?_) (fun c7=> ?_)
  ·rw[if_pos c7] at hq
   refine ah ?_;refine ZL Tryz.underlying189 k1 ?_;have hcd:=j5 K hK E0 hE 21 3 p d _ (pw.to hle bel k99) hp1 (by unfold bu;omega) (by omega) (by rw[←hq];exact hne);rw[←hq] at hcd;have hs0:=bel.size;have hk2:=k2.lt;rcases Rs.bZ hne with ⟨q,ov,hr⟩|⟨x,q,hr⟩
   ·rw[hr] at hcd
    refine Seq.bJ (Ze Tryz.func237) rfl hcd ?_;rintro e w8 ⟨hf,rfl,d6,hp6⟩;refine⟨_,rfl,fun a ha=>⟨ha.defers,?_⟩⟩;rw[hr];exact⟨bel.call hf,rfl,d6,hp6⟩
   rw[hr] at hcd;refine Zc (Ze Tryz.func237) (hcd) ?_;rintro e wq ⟨hf,v6,rfl,pwq,S,hrep,hb⟩;refine⟨_,rfl,?_⟩;replace bel:=bel.call hf;replace k2:=k2.fz hf (by omega);have hones:=hrep.bt;refine Seq.ij rfl rfl rfl rfl (m:=4) (by kernel_rfl) hones.1 (fS hones.2) k2 (by rw[hones.1];exact Nat.le_refl _) rfl rfl ?_;intro w9 p9;have pw9:=p9.all hones.1 rfl;have pb9:=bel.put k2 p9 e2;have hlt2:=k2.lt;clear k2 bel;have k2:=pw9;have bel:=pb9;obtain⟨AX,cX,hvX⟩:=hrep.form;refine gM 0 1 2 3 4 8 11 16 21 24 28 31 35 39 (Zt (Cd.ret (ab.af (ab.af (ab.ae ?_)))));subst hvX;refine iH 4 k2 Tryz.underlying105 ?_;rw[hr];refine⟨bel,_,rfl,⟨pwq.an.put p9 (by omega),pwq.rd.below (p9.below (by omega) hlt2),pwq.cj,pwq.cD⟩,S,hrep.mono (fun _ h=>h) (fun a ha=>World.cell?_of_block (p9.grown.block _ (hb _ ha).2 (fun e=>by injection e with e;have:=(hb _ ha).1;omega))),fun b hb'=> ?_⟩;obtain⟨h1,h2⟩:=hb b hb';have:=p9.size;exact⟨by omega,by omega⟩
  rw[if_neg c7] at hq;have hnm:=rJ K hK p d _ (pw.to hle bel k99);refine ah ?_;refine ZL Tryz.underlying189 k1 ?_;rcases Rs.bZ (qR K.ws p) with ⟨q,ov,hr⟩|⟨x,q,hr⟩
  ·rw[hr] at hnm hq
   refine Seq.bJ (Ze Tryz.func168) rfl hnm ?_;rintro e w8 ⟨hf,rfl,d6,hp6⟩;refine⟨_,rfl,fun a ha=>⟨ha.defers,?_⟩⟩;rw[hq];exact⟨bel.call hf,rfl,d6,hp6⟩
  have hx:x=(K.at_ p).text:=by
   unfold eA at hr;split at hr
   ·injection hr with hr;rw[←hr,b2]
   ·cases hr
  rw[hr] at hnm hq;replace hq:iC K.ws E0 p d= .ok (.mk 3 0 x []) q:=hq;refine Zc (Ze Tryz.func168) (hnm) ?_;rintro e wq ⟨hf,v6,rfl,pwq,rfl⟩;refine⟨_,rfl,?_⟩;replace bel:=bel.call hf;replace k2:=k2.fz hf (by omega);replace k99:=pwq.an;have loc:=Fz.refl wq.heap.size K.g wq;have hlt2:=k2.lt;refine Zv (aa.build rfl rfl (qn 3 _ _)) ?_;refine Zo 4 k2 ?_;intro w6 pw6;replace bel:=bel.put k2 pw6 e2;replace k99:=k99.put pw6 (by omega);replace k2:=pw6.an;refine gM 0 1 2 3 4 8 11 16 21 24 28 31 35 39 (Zt (Cd.ret (ab.af (ab.af (ab.ae ?_)))));refine iH 4 k2 Tryz.underlying105 ?_;rw[hq];exact⟨bel,_,rfl,⟨k99,pwq.rd.below (pw6.below (by omega) hlt2),pwq.cj,pwq.cD⟩,fun _=>False,bX.mk (args:=[]) (vs:=[]) rfl (by simp) (by unfold bu;omega) (by unfold bu;omega) (by rw[hx];exact a3) (by rw[hx];omega) (fun i e v h=>by simp at h) (fun h=>absurd rfl h),fun b hb=>hb.elim⟩
 rw[if_neg c3] at hq;refine ah ?_;refine aX ?_;refine Za ?_;refine dr 0 1 2 3 4 8 11 16 21 43 (Zt ?_);refine Cd.ao rfl (fun c8=> ?_) (fun c8=> ?_)
 ·rw[if_pos c8] at hq
  refine ah ?_;refine ZL Tryz.underlying189 k1 ?_;refine Zv (aa.makeFunc (v:= .func (.func 238) #[] #[.pointer (some ⟨g1,0,none⟩), .pointer (some ⟨g4,0,none⟩)]) rfl (show fc _ _=some [] from rfl) (show fc _ _=some [.pointer (some ⟨g1,0,none⟩), .pointer (some ⟨g4,0,none⟩)] from rfl) rfl) ?_;refine Seq.slice (vs:=[_]) (s:=1) rfl rfl rfl Tryz.underlying225 (by kernel_rfl) (cO) (by omega) (by omega) ⟨rfl,trivial⟩ rfl rfl rfl ?_;intro g47 w6 n47;have e47:=Nat.le_trans bel.size n47.ge;have l47:=Nat.lt_of_lt_of_le k4.lt n47.ge;replace bel:=bel.step n47.below;replace k99:=k99.step n47.below;replace k1:=k1.step n47.below;replace k2:=k2.step n47.below;replace k3:=k3.step n47.below;replace k4:=k4.step n47.below;have k47:=n47.an;have pw8:=pw.to hle bel k99;obtain⟨wr,hwr⟩:∃wr,wr=w6:=⟨_,rfl⟩;rw[←hwr] at pw8 bel k1 k2 k4 k47⊢;obtain⟨R,hR⟩:∃R,R=bW K.ws [E0] p d:=⟨_,rfl⟩;rw[←hR] at hq;have hneR:R≠ .out:=Rs.dP (by rw[←hq];exact hne);have hgg4:K.g<g4:=by omega
  have hwi:=gX K hK g4 [E0] [(238,[Value.pointer (some ⟨g1,0,none⟩),Value.pointer (some ⟨g4,0,none⟩)])] (some ⟨g47,0,none⟩) 1
   (fun xs W=>Kp wr W∧vS g4 g4 xs W) p d wr pw8 (Nat.le_of_lt k4.lt) rfl (by simp)
   ⟨Kp.refl wr,_,k4,rfl,fun x hx=>by simp at hx⟩
   (fun xs W W' p d hM hp hf=>⟨hM.1.fz hp.an hf,hM.2.fz hf hgg4 (Nat.le_refl _)⟩)
   (fun xs W j f cp hM hj=>by
    match j,hj with
    |0,hj=>
     simp at hj;obtain⟨e1,e2⟩:=hj;subst e1 e2;refine⟨_,rfl,?_⟩;have hb:=(hM.1.an k47).cell 0;exact hb
    |j+1,hj=>simp at hj)
   (fun j f cp hj=>by
    match j,hj with
    |0,hj=>
     simp at hj;obtain⟨e1,e2⟩:=hj;subst e1;exact yB
    |j+1,hj=>simp at hj)
   (fun j f cp one hj ho xs W p' hxl hpw hW hM hne1=>by
    match j,hj,ho,hxl with
    |0,hj,ho,hxl=>
     simp at hj ho;obtain⟨e1,e2⟩:=hj;subst e1 e2 ho;have hx0:xs=[]:=List.eq_nil_of_length_eq_zero hxl;subst hx0;exact(vk K hK g4 g1 g4 (d+1) p' E0 W hpw hgg4 (Nat.le_refl _) hW (hM.1.an k1) hM.2 (fun W' h1 _=>hE p' (d+1) W' h1 hne1) hne1).mono fun e W' hq=>hq.mono fun a v W' h=>⟨hM.1.trans h.1,h.2⟩
    |j+1,hj,_,_=>simp at hj)
   (by rw[←hR];exact hneR)
  rw[←hR] at hwi;rcases Rs.bZ hneR with ⟨q,ov,hr⟩|⟨xs,q,hr⟩
  ·rw[hr] at hwi hq
   refine Seq.bJ (Ze Tryz.func166) rfl hwi ?_;rintro e w8 ⟨hf,rfl,d6,hp6⟩;refine⟨_,rfl,fun a ha=>⟨ha.defers,?_⟩⟩;rw[hq];exact⟨bel.trans (hf.less (by omega)),rfl,d6,hp6⟩
  have hxl:=fQ (hR.symm.trans hr)
  obtain⟨x,rfl⟩:∃x,xs=[x]:=by
   match xs,hxl with
   | [x],_=>exact⟨x,rfl⟩
  rw[hr] at hwi hq;replace hq:iC K.ws E0 p d= .ok x q:=hq;refine Zc (Ze Tryz.func166) (hwi) ?_;rintro e wq ⟨hf,v6,rfl,pwq,kpq,cs,k4q,hcs4,hx⟩;refine⟨_,rfl,?_⟩;obtain⟨S,v,rfl,hrep,hb⟩:=hx x rfl
  have k2q:aE wq g2 105 #[.int .i64 0, .int .i64 0, .string {data:= #[]}, .slice none 0 0]:=by
   have h2:aE wr g2 105 #[.int .i64 0, .int .i64 0, .string {data:= #[]}, .slice none 0 0]:=k2;have h1:=hf.block g2 (by omega) (by omega);unfold aE at h2⊢;rw[h1];exact h2
  have belq:Fz w.heap.size K.g w wq:=bel.trans (hf.less (by omega));clear bel k1 k2 k3 k4 k47 k99;have bel:=belq;have k2:=k2q;obtain⟨AX,cX,hvX⟩:=hrep.form;subst hvX;have k4:=k4q;have hlt2:=k2.lt;refine dr 0 1 2 3 4 8 11 16 21 43 (az ?_);refine ZW 4 Tryz.underlying105 k4 ?_;refine Zo 4 k2 ?_;intro w7 pw7;replace bel:=bel.put k2 pw7 e2;replace k4:=k4.put pw7 (by omega);replace k2:=pw7.an;refine dr 0 1 2 3 4 8 11 16 21 43 (Zt (Cd.ret (ab.af (ab.ae ?_))));refine iH 4 k2 Tryz.underlying105 ?_;rw[hq];refine⟨bel,_,rfl,⟨pwq.an.put pw7 (by omega),pwq.rd.below (pw7.below (by omega) hlt2),pwq.cj,pwq.cD⟩,S,hrep.mono (fun _ h=>h) (fun a ha=>World.cell?_of_block (pw7.grown.block _ (hb _ ha).2.1 (fun e=>by injection e with e;have:=(hb _ ha).1;omega))),fun b hb'=> ?_⟩;obtain⟨h1,h2,h3⟩:=hb b hb';have:=pw7.size;exact⟨by omega,by omega⟩
 rw[if_neg c8] at hq;refine Zr ?_;refine ZL Tryz.underlying189 k1 ?_;refine Seq.bJ (Ze Tryz.func165) rfl (gO K.g _) ?_;rintro e w6 ⟨rfl,hb6⟩;refine⟨_,rfl,fun a ha=>⟨ha.defers,?_⟩⟩;rw[hq];exact⟨bel.step hb6,rfl,d,pw.to hle (bel.step hb6) (k99.step hb6)⟩
theorem kC (a:Int)(g:Nat)(w:World):(Instr.build 105 #[(0, .int .i64 a),(3, .slice (some ⟨g,0,none⟩) 1 1)]).run Tryz.prog w= .ok (.agg #[.int .i64 a, .int .i64 0, .string (strOf []), .slice (some ⟨g,0,none⟩) 1 1]) w:=by
 have hu:=Tryz.underlying105
 go_simp
 rfl
structure zN (lo hi:Nat)(S:Nat→Prop)(x:Ex)(v:Value)(W:World):Prop where
 rep:bX W S x v
 bd:∀b,S b→lo≤b∧b<hi
 dA:hi≤W.heap.size
theorem zN.step {lo hi:Nat}{S:Nat→Prop}{x:Ex}{v:Value}{W W':World}(r:zN lo hi S x v W)(h:Below W.heap.size W W'):zN lo hi S x v W':=
 ⟨r.rep.mono (fun _ h=>h) (fun a ha=>h.cell (Nat.lt_of_lt_of_le (r.bd _ ha).2 r.dA)),r.bd,Nat.le_trans r.dA h.size⟩
theorem zN.put {lo hi g:Nat}{T:TypeId}{cur cs:Array Value}{S:Nat→Prop}{x:Ex}{v:Value}{W W':World}(r:zN lo hi S x v W)(_k:aE W g T cur)(p:gI W W' g T cs){E:Prop}(_e:E)(hne:g<lo∨hi≤g:=by omega):zN lo hi S x v W':=
 ⟨r.rep.mono (fun _ h=>h) (fun a ha=>World.cell?_of_block (p.grown.block _ (Nat.lt_of_lt_of_le (r.bd _ ha).2 r.dA) (fun e=>by injection e with e;have:=r.bd _ ha;omega))),r.bd,Nat.le_trans r.dA (Nat.le_of_eq p.size.symm)⟩
def yv (K:Ctx)(S0:Nat→Nat→Rs Ex):Prop:=∀p d W,PW K W p d false→S0 p d≠ .out→Calls Tryz.prog 196 #[.pointer (some ⟨K.g,0,none⟩)] W (PR K W d (S0 p d) (yl W))
theorem vu (K:Ctx)(hK:K.Ok)(S0 E0:Nat→Nat→Rs Ex)(hS:yv K S0)(hE:zy K E0)(p d:Nat)(w:World)(pw:PW K w p d false)(hne:cN K.ws S0 E0 p d≠ .out):
  Calls Tryz.prog 196 #[.pointer (some ⟨K.g,0,none⟩)] w (PR K w d (cN K.ws S0 E0 p d) (yl w)):=by
 have bel:=Fz.refl w.heap.size K.g w;have k99:=pw.an;have e99:K.g=K.g:=rfl;have hlt:=pw.an.lt;have hlen:=hK.len;have hle:=hK.le;have hpl:=pw.cj;have his:=fun(s:List Nat) (hs:∀x∈s,x<256) W h=>xB K hK p d false 0 s W h hs;have hq:cN K.ws S0 E0 p d=if uO K.ws p [33]=true then fa S0 19 p d else if uO K.ws p [45]=true then fa S0 20 p d else iC K.ws E0 p d:=rfl
 have hp:∀s,uO K.ws p s=true→p+1≤K.ws.length:=fun s hk=>by
  rcases Nat.lt_or_ge p K.ws.length with h|h
  ·exact h
  ·unfold uO at hk
   have h1:ez K.ws p=⟨-1,[],0,0⟩:=by unfold ez;rw[List.getD_eq_getElem?_getD,List.getElem?_eq_none h];rfl
   rw[h1] at hk;simp at hk
 refine Zs 35 Tryz.func196 ?_;refine ah ?_;refine Zl au ?_;intro g2 w1 n2;have e2:=Nat.le_trans bel.size n2.ge;have l2:=Nat.lt_of_lt_of_le k99.lt n2.ge;replace bel:=bel.step n2.below;replace k99:=k99.step n2.below;have k2:=n2.an;refine cZ 0 2 (az ?_);refine Za ?_;refine bk 0 2 3 (aH (Cd.block (ah ?_)));refine Zm ?_;refine Zc (Ze Tryz.func221) (his [33] (by decide) _ (pw.to hle bel k99)) ?_;rintro e w5 ⟨rfl,hb5⟩;refine⟨_,rfl,?_⟩;replace bel:=bel.step hb5;replace k99:=k99.step hb5;replace k2:=k2.step hb5;refine Za ?_;refine aS 0 2 3 7 (Zt ?_);refine Cd.cond rfl (fun c1=> ?_) (fun c1=> ?_)
 ·have c1:uO K.ws p [33]=true:=c1
  have hp1:=hp _ c1;rw[if_pos c1] at hq;have hen:=kR K hK p d _ (pw.to hle bel k99);refine Zr ?_;refine Za ?_;refine aS 0 2 3 7 (ab.ag (az ?_));refine Zm ?_;rcases Rs.bZ (ld p d) with ⟨p2,o2,hr2⟩|⟨u2,p2,hr2⟩
  ·unfold fa at hq
   rw[hr2] at hen hq;refine Seq.bJ (Ze Tryz.func209) rfl hen ?_;rintro e w6 ⟨hf,rfl,d6,hp6⟩;refine⟨_,rfl,fun a ha=>⟨ha.defers,?_⟩⟩;rw[hq];exact⟨bel.call hf,rfl,d6,hp6⟩
  have hp2:p2=p:=by
   unfold dX at hr2;split at hr2
   ·cases hr2
   ·injection hr2 with _ h;exact h.symm
  subst hp2;unfold fa at hq;rw[hr2] at hen hq;replace hq:cN K.ws S0 E0 p2 d=(S0 (p2+1) (d+1)).bind fun x p=> .ok (.mk 19 0 [] [x]) p:=hq;have hne1:S0 (p2+1) (d+1)≠ .out:=Rs.dP (by rw[←hq];exact hne);refine Zc (Ze Tryz.func209) (hen) ?_;rintro e we ⟨hfe,v6,rfl,pwe,-⟩;refine⟨_,rfl,?_⟩;replace bel:=bel.call hfe;replace k2:=k2.fz hfe (by omega);replace k99:=pwe.an;have loc:=Fz.refl we.heap.size K.g we;refine aS 0 2 3 7 (az ?_);refine Zm ?_;refine Zv (aa.nilCheck rfl rfl) ?_;refine Zf 1 Tryz.underlying219 ?_;refine ZL Tryz.underlying3 k99 ?_;refine dq ?_;refine Zv (aa.nilCheck rfl rfl) ?_;refine Zf 1 Tryz.underlying219 ?_;refine Zq k99 ?_;intro w2 pw2;replace bel:=bel.put k99 pw2 e99;replace k2:=k2.put pw2 (by omega);replace loc:=loc.put k99 pw2 e99;replace k99:=pw2.an;refine aS 0 2 3 7 (az ?_);refine Zm ?_;have pwn:=pwe.next hle hp1 loc k99;have hun:=hS (p2+1) (d+1) _ pwn hne1;rcases Rs.bZ hne1 with ⟨q,ov,hr⟩|⟨x,q,hr⟩
  ·rw[hr] at hun hq
   refine Seq.bJ (Ze Tryz.func196) rfl hun ?_;rintro e w6 ⟨hf,rfl,d6,hp6⟩;refine⟨_,rfl,fun a ha=>⟨ha.defers,?_⟩⟩;rw[hq];exact⟨bel.call hf,rfl,d6,hp6⟩
  rw[hr] at hun hq;replace hq:cN K.ws S0 E0 p2 d= .ok (.mk 19 0 [] [x]) q:=hq;have hk2:=k2.lt;have hsb:=bel.size;refine Zc (Ze Tryz.func196) (hun) ?_;rintro e wq ⟨hf,v6,rfl,pwq,S,hrep,hb⟩;refine⟨_,rfl,?_⟩;replace bel:=bel.call hf;replace k2:=k2.fz hf (by omega);replace k99:=pwq.an;have hones:=hrep.bt;have hsf:=hf.size;have rs:zN _ wq.heap.size S x v6 wq:=⟨hrep,hb,Nat.le_refl _⟩;clear loc;obtain⟨AX,cX,hvX⟩:=hrep.form;subst hvX;have hd64:=pwq.deep;refine Zl au ?_;intro g4 w3 n4;have q4:=n4.ge;have e4:=Nat.le_trans bel.size n4.ge;have l4:=Nat.lt_of_lt_of_le k2.lt n4.ge;replace bel:=bel.step n4.below;replace k99:=k99.step n4.below;replace k2:=k2.step n4.below;replace rs:=rs.step n4.below;have k4:=n4.an;refine Zo 4 k4 ?_;intro w4 pw4;replace bel:=bel.put k4 pw4 e4;replace k99:=k99.put pw4 (by omega);replace k2:=k2.put pw4 (by omega);replace rs:=rs.put k4 pw4 e4;replace k4:=pw4.an;refine aL 0 2 3 4 7 (az ?_);refine Zm ?_;refine Zv (aa.nilCheck rfl rfl) ?_;refine Zf 2 Tryz.underlying219 ?_;refine ZL Tryz.underlying3 k99 ?_;refine qq ?_;refine Zv (aa.nilCheck rfl rfl) ?_;refine Zf 2 Tryz.underlying219 ?_;refine Zq k99 ?_;intro w5 pw5;replace bel:=bel.put k99 pw5 e99;replace k2:=k2.put pw5 (by omega);replace rs:=rs.put k99 pw5 e99;replace k4:=k4.put pw5 (by omega);replace k99:=pw5.an;refine aL 0 2 3 4 7 (az ?_);refine Zm ?_;refine ZW 4 Tryz.underlying105 k4 ?_;refine Seq.slice (vs:=[_]) (s:=4) rfl rfl rfl Tryz.underlying68 (by kernel_rfl) (au) (by omega) (by omega) ⟨rfl,trivial⟩ rfl rfl rfl ?_;intro g33 w6 n33;have q33:=n33.ge;have e33:=Nat.le_trans bel.size n33.ge;have l33:=Nat.lt_of_lt_of_le k4.lt n33.ge;replace bel:=bel.step n33.below;replace k99:=k99.step n33.below;replace k2:=k2.step n33.below;replace rs:=rs.step n33.below;replace k4:=k4.step n33.below;have k33:=n33.an;refine Zv (aa.build rfl rfl (kC 19 _ _)) ?_;refine Zo 4 k2 ?_;intro w7 pw7;replace bel:=bel.put k2 pw7 e2;replace k99:=k99.put pw7 (by omega);replace rs:=rs.put k2 pw7 e2;replace k4:=k4.put pw7 (by omega);replace k33:=k33.put pw7 (by omega);replace k2:=pw7.an;refine aL 0 2 3 4 7 (Zt (Cd.ret ?_));refine iH 4 k2 Tryz.underlying105 ?_;have hcast:((d+1:Nat):Int)-1=(d:Int):=by omega
  rw[hcast] at k99;rw[hq];have hadd:(⟨g33,0,none⟩:Addr).add=fun j=>⟨g33,j,none⟩:=by funext j;unfold Addr.add;split<;>simp_all
  refine⟨bel,_,rfl,⟨k99,pw.rd.below (bel.below (by omega) hle),pwq.cj, .inl (by omega)⟩,(fun b=>S b∨b=g33),bX.mk (args:=[x]) (vs:=[.agg #[.int .i64 x.op, .int .i64 x.n, .string (strOf x.name), .slice AX x.args.length cX]]) rfl (by simp) (by unfold bu;omega) (by unfold bu;omega) (by simp) (by simp) (fun i e v h1 h2=> ?_) (fun _=>⟨⟨g33,0,none⟩,rfl, .inr rfl,fun j u hu=> ?_⟩),fun b hb'=> ?_⟩
  ·match i,h1,h2 with
   |0,h1,h2=>
    simp at h1 h2;subst h1 h2;exact rs.rep.mono (fun _ h=> .inl h) (fun _ _=>rfl)
   |i+1,h1,_=>simp at h1
  ·rw[hadd,k33.cell j]
   have hu2:(aC [Value.agg #[.int .i64 x.op, .int .i64 x.n, .string (strOf x.name), .slice AX x.args.length cX]]).toArray[j]? =some u:=by simpa using hu
   exact hu2
  ·rcases hb' with hb'|rfl
   ·obtain⟨h1,h2⟩:=hb b hb'
    have:=rs.dA;exact⟨by omega,by omega⟩
   ·exact⟨by omega,k33.lt⟩
 have c1:uO K.ws p [33]=false:=c1;rw[if_neg (by rw[c1];simp)] at hq;refine ah ?_;refine Zm ?_;refine Zc (Ze Tryz.func221) (his [45] (by decide) _ (pw.to hle bel k99)) ?_;rintro e w6 ⟨rfl,hb6⟩;refine⟨_,rfl,?_⟩;replace bel:=bel.step hb6;replace k99:=k99.step hb6;replace k2:=k2.step hb6;refine Za ?_;refine aL 0 2 3 7 10 (Zt ?_);refine Cd.cond rfl (fun c2=> ?_) (fun c2=> ?_)
 ·have c2:uO K.ws p [45]=true:=c2
  have hp1:=hp _ c2;rw[if_pos c2] at hq;have hen:=kR K hK p d _ (pw.to hle bel k99);refine Zr ?_;refine Za ?_;refine aL 0 2 3 7 10 (ab.ag (az ?_));refine Zm ?_;rcases Rs.bZ (ld p d) with ⟨p2,o2,hr2⟩|⟨u2,p2,hr2⟩
  ·unfold fa at hq
   rw[hr2] at hen hq;refine Seq.bJ (Ze Tryz.func209) rfl hen ?_;rintro e w6 ⟨hf,rfl,d6,hp6⟩;refine⟨_,rfl,fun a ha=>⟨ha.defers,?_⟩⟩;rw[hq];exact⟨bel.call hf,rfl,d6,hp6⟩
  have hp2:p2=p:=by
   unfold dX at hr2;split at hr2
   ·cases hr2
   ·injection hr2 with _ h;exact h.symm
  subst hp2;unfold fa at hq;rw[hr2] at hen hq;replace hq:cN K.ws S0 E0 p2 d=(S0 (p2+1) (d+1)).bind fun x p=> .ok (.mk 20 0 [] [x]) p:=hq;have hne1:S0 (p2+1) (d+1)≠ .out:=Rs.dP (by rw[←hq];exact hne);refine Zc (Ze Tryz.func209) (hen) ?_;rintro e we ⟨hfe,v6,rfl,pwe,-⟩;refine⟨_,rfl,?_⟩;replace bel:=bel.call hfe;replace k2:=k2.fz hfe (by omega);replace k99:=pwe.an;have loc:=Fz.refl we.heap.size K.g we;refine aL 0 2 3 7 10 (az ?_);refine Zm ?_;refine Zv (aa.nilCheck rfl rfl) ?_;refine Zf 1 Tryz.underlying219 ?_;refine ZL Tryz.underlying3 k99 ?_;refine dq ?_;refine Zv (aa.nilCheck rfl rfl) ?_;refine Zf 1 Tryz.underlying219 ?_;refine Zq k99 ?_;intro w2 pw2;replace bel:=bel.put k99 pw2 e99;replace k2:=k2.put pw2 (by omega);replace loc:=loc.put k99 pw2 e99;replace k99:=pw2.an;refine aL 0 2 3 7 10 (az ?_);refine Zm ?_;have pwn:=pwe.next hle hp1 loc k99;have hun:=hS (p2+1) (d+1) _ pwn hne1;rcases Rs.bZ hne1 with ⟨q,ov,hr⟩|⟨x,q,hr⟩
  ·rw[hr] at hun hq
   refine Seq.bJ (Ze Tryz.func196) rfl hun ?_;rintro e w6 ⟨hf,rfl,d6,hp6⟩;refine⟨_,rfl,fun a ha=>⟨ha.defers,?_⟩⟩;rw[hq];exact⟨bel.call hf,rfl,d6,hp6⟩
  rw[hr] at hun hq;replace hq:cN K.ws S0 E0 p2 d= .ok (.mk 20 0 [] [x]) q:=hq;have hk2:=k2.lt;have hsb:=bel.size;refine Zc (Ze Tryz.func196) (hun) ?_;rintro e wq ⟨hf,v6,rfl,pwq,S,hrep,hb⟩;refine⟨_,rfl,?_⟩;replace bel:=bel.call hf;replace k2:=k2.fz hf (by omega);replace k99:=pwq.an;have hones:=hrep.bt;have hsf:=hf.size;have rs:zN _ wq.heap.size S x v6 wq:=⟨hrep,hb,Nat.le_refl _⟩;clear loc;obtain⟨AX,cX,hvX⟩:=hrep.form;subst hvX;have hd64:=pwq.deep;refine Zl au ?_;intro g4 w3 n4;have q4:=n4.ge;have e4:=Nat.le_trans bel.size n4.ge;have l4:=Nat.lt_of_lt_of_le k2.lt n4.ge;replace bel:=bel.step n4.below;replace k99:=k99.step n4.below;replace k2:=k2.step n4.below;replace rs:=rs.step n4.below;have k4:=n4.an;refine Zo 4 k4 ?_;intro w4 pw4;replace bel:=bel.put k4 pw4 e4;replace k99:=k99.put pw4 (by omega);replace k2:=k2.put pw4 (by omega);replace rs:=rs.put k4 pw4 e4;replace k4:=pw4.an;refine aV 0 2 3 4 7 10 (az ?_);refine Zm ?_;refine Zv (aa.nilCheck rfl rfl) ?_;refine Zf 2 Tryz.underlying219 ?_;refine ZL Tryz.underlying3 k99 ?_;refine qq ?_;refine Zv (aa.nilCheck rfl rfl) ?_;refine Zf 2 Tryz.underlying219 ?_;refine Zq k99 ?_;intro w5 pw5;replace bel:=bel.put k99 pw5 e99;replace k2:=k2.put pw5 (by omega);replace rs:=rs.put k99 pw5 e99;replace k4:=k4.put pw5 (by omega);replace k99:=pw5.an;refine aV 0 2 3 4 7 10 (az ?_);refine Zm ?_;refine ZW 4 Tryz.underlying105 k4 ?_;refine Seq.slice (vs:=[_]) (s:=4) rfl rfl rfl Tryz.underlying68 (by kernel_rfl) (au) (by omega) (by omega) ⟨rfl,trivial⟩ rfl rfl rfl ?_;intro g33 w6 n33;have q33:=n33.ge;have e33:=Nat.le_trans bel.size n33.ge;have l33:=Nat.lt_of_lt_of_le k4.lt n33.ge;replace bel:=bel.step n33.below;replace k99:=k99.step n33.below;replace k2:=k2.step n33.below;replace rs:=rs.step n33.below;replace k4:=k4.step n33.below;have k33:=n33.an;refine Zv (aa.build rfl rfl (kC 20 _ _)) ?_;refine Zo 4 k2 ?_;intro w7 pw7;replace bel:=bel.put k2 pw7 e2;replace k99:=k99.put pw7 (by omega);replace rs:=rs.put k2 pw7 e2;replace k4:=k4.put pw7 (by omega);replace k33:=k33.put pw7 (by omega);replace k2:=pw7.an;refine aV 0 2 3 4 7 10 (Zt (Cd.ret ?_));refine iH 4 k2 Tryz.underlying105 ?_;have hcast:((d+1:Nat):Int)-1=(d:Int):=by omega
  rw[hcast] at k99;rw[hq];have hadd:(⟨g33,0,none⟩:Addr).add=fun j=>⟨g33,j,none⟩:=by funext j;unfold Addr.add;split<;>simp_all
  refine⟨bel,_,rfl,⟨k99,pw.rd.below (bel.below (by omega) hle),pwq.cj, .inl (by omega)⟩,(fun b=>S b∨b=g33),bX.mk (args:=[x]) (vs:=[.agg #[.int .i64 x.op, .int .i64 x.n, .string (strOf x.name), .slice AX x.args.length cX]]) rfl (by simp) (by unfold bu;omega) (by unfold bu;omega) (by simp) (by simp) (fun i e v h1 h2=> ?_) (fun _=>⟨⟨g33,0,none⟩,rfl, .inr rfl,fun j u hu=> ?_⟩),fun b hb'=> ?_⟩
  ·match i,h1,h2 with
   |0,h1,h2=>
    simp at h1 h2;subst h1 h2;exact rs.rep.mono (fun _ h=> .inl h) (fun _ _=>rfl)
   |i+1,h1,_=>simp at h1
  ·rw[hadd,k33.cell j]
   have hu2:(aC [Value.agg #[.int .i64 x.op, .int .i64 x.n, .string (strOf x.name), .slice AX x.args.length cX]]).toArray[j]? =some u:=by simpa using hu
   exact hu2
  ·rcases hb' with hb'|rfl
   ·obtain⟨h1,h2⟩:=hb b hb'
    have:=rs.dA;exact⟨by omega,by omega⟩
   ·exact⟨by omega,k33.lt⟩
 have c2:uO K.ws p [45]=false:=c2;rw[if_neg (by rw[c2];simp)] at hq;rw[hq] at hne;have hat:=yh K hK E0 hE p d _ (pw.to hle bel k99) hne;refine ah ?_;refine Zm ?_;rcases Rs.bZ hne with ⟨q,ov,hr⟩|⟨x,q,hr⟩
 ·rw[hr] at hat
  refine Seq.bJ (Ze Tryz.func222) rfl hat ?_;rintro e w8 ⟨hf,rfl,d6,hp6⟩;refine⟨_,rfl,fun a ha=>⟨ha.defers,?_⟩⟩;rw[hq,hr];exact⟨bel.call hf,rfl,d6,hp6⟩
 rw[hr] at hat;have hk2:=k2.lt;have hsb:=bel.size;refine Zc (Ze Tryz.func222) (hat) ?_;rintro e wq ⟨hf,v6,rfl,pwq,S,hrep,hb⟩;refine⟨_,rfl,?_⟩;replace bel:=bel.call hf;replace k2:=k2.fz hf (by omega);obtain⟨AX,cX,hvX⟩:=hrep.form;subst hvX;have hlt2:=k2.lt;refine Zo 4 k2 ?_;intro w2 pw2;replace bel:=bel.put k2 pw2 e2;replace k2:=pw2.an;refine aL 0 2 3 7 10 (Zt (Cd.ret (ab.af (ab.ae ?_))));refine iH 4 k2 Tryz.underlying105 ?_;rw[hq,hr];refine⟨bel,_,rfl,⟨pwq.an.put pw2 (by omega),pwq.rd.below (pw2.below (by omega) hlt2),pwq.cj,pwq.cD⟩,S,hrep.mono (fun _ h=>h) (fun a ha=>World.cell?_of_block (pw2.grown.block _ (hb _ ha).2 (fun e=>by injection e with e;have:=(hb _ ha).1;omega))),fun b hb'=> ?_⟩;obtain⟨h1,h2⟩:=hb b hb';have:=pw2.size;exact⟨by omega,by omega⟩
def uV (K:Ctx)(n lvl:Nat):Prop:=∀p d W,PW K W p d false→(bp K.ws n).E lvl p d≠ .out→Calls Tryz.prog 151 #[.pointer (some ⟨K.g,0,none⟩), .int .i64 (lvl:Int)] W (PR K W d ((bp K.ws n).E lvl p d) (yl W))
theorem wU (K:Ctx)(hK:K.Ok)(n:Nat)(hS:yv K (bp K.ws (n+1)).S):uV K (n+1) 5:=by
 intro p d w pw hne;have he:(bp K.ws (n+1)).E 5 p d=(bp K.ws (n+1)).S p d:=rfl;rw[he] at hne⊢;have bel:=Fz.refl w.heap.size K.g w;have k99:=pw.an;have e99:K.g=K.g:=rfl;have hlt:=pw.an.lt;have hle:=hK.le;refine Zs 66 Tryz.func151 ?_;refine ah ?_;refine Zl au ?_;intro g4 w1 n4;have e4:=Nat.le_trans bel.size n4.ge;have l4:=Nat.lt_of_lt_of_le k99.lt n4.ge;replace bel:=bel.step n4.below;replace k99:=k99.step n4.below;have k4:=n4.an;refine bk 0 1 4 (az ?_);refine Zc (Ze Tryz.func195) (mR _) ?_;rintro e w5 ⟨gl,rfl,hb5,-⟩;refine⟨_,rfl,?_⟩;replace bel:=bel.step hb5;replace k99:=k99.step hb5;replace k4:=k4.step hb5;refine Za ?_;refine aS 0 1 4 5 (aH (ah ?_));refine Zm ?_;refine Zm ?_;refine Zv (aa.len rfl rfl Tryz.underlying244) ?_;refine aX ?_;refine aL 0 1 4 5 13 (Zt ?_);refine Cd.aM rfl (by decide) ?_;have hun:=hS p d _ (pw.to hle bel k99) hne;refine ah ?_;refine Zm ?_;rcases Rs.bZ hne with ⟨q,ov,hr⟩|⟨x,q,hr⟩
 ·rw[hr] at hun
  refine Seq.bJ (Ze Tryz.func196) rfl hun ?_;rintro e w8 ⟨hf,rfl,d6,hp6⟩;refine⟨_,rfl,fun a ha=>⟨ha.defers,?_⟩⟩;rw[hr];exact⟨bel.call hf,rfl,d6,hp6⟩
 rw[hr] at hun⊢;have hk4:=k4.lt;have hsb:=bel.size;refine Zc (Ze Tryz.func196) (hun) ?_;rintro e wq ⟨hf,v6,rfl,pwq,S,hrep,hb⟩;refine⟨_,rfl,?_⟩;replace bel:=bel.call hf;replace k4:=k4.fz hf (by omega);obtain⟨AX,cX,hvX⟩:=hrep.form;subst hvX;have hlt2:=k4.lt;refine Zo 4 k4 ?_;intro w2 pw2;replace bel:=bel.put k4 pw2 e4;replace k4:=pw2.an;refine aL 0 1 4 5 13 (Zt (Cd.ret (ab.ae ?_)));refine iH 4 k4 Tryz.underlying105 ?_;refine⟨bel,_,rfl,⟨pwq.an.put pw2 (by omega),pwq.rd.below (pw2.below (by omega) hlt2),pwq.cj,pwq.cD⟩,S,hrep.mono (fun _ h=>h) (fun a ha=>World.cell?_of_block (pw2.grown.block _ (hb _ ha).2 (fun e=>by injection e with e;have:=(hb _ ha).1;omega))),fun b hb'=> ?_⟩;obtain⟨h1,h2⟩:=hb b hb';have:=pw2.size;exact⟨by omega,by omega⟩
theorem uX {ws:List Wd}{lvl p:Nat}(h:(ez ws p).kind≠0∨jU (bV lvl) (ez ws p).text<0):opAt ws lvl p=none:=by
 unfold opAt;split
 ·rfl
 ·rename_i hk
  rcases h with h|h
  ·exact absurd h hk
  ·unfold jU at h
   split at h
   ·omega
   ·rename_i hm
    rw[if_neg hm]
theorem uR {ws:List Wd}{lvl p:Nat}(h1:(ez ws p).kind=0)(h2:¬jU (bV lvl) (ez ws p).text<0):∃(i:Nat) (op:Int),jU (bV lvl) (ez ws p).text=(i:Int)∧i<(iy lvl).length∧(iy lvl)[i]? =some op∧opAt ws lvl p=some op∧bu op:=by
 have hlen:∀lvl,(bV lvl).length=(iy lvl).length:=fun lvl=>by
  unfold bV iy;split<;>rfl
 unfold jU at h2⊢;split at h2
 ·rename_i hm
  rw[if_pos hm];have hi:=List.idxOf_lt_length_of_mem hm;rw[hlen] at hi;obtain⟨op,hop⟩:∃op,(iy lvl)[(bV lvl).idxOf (ez ws p).text]? =some op:=⟨_,List.getElem?_eq_getElem hi⟩;refine⟨_,op,rfl,hi,hop,?_,?_⟩
  ·unfold opAt
   rw[if_neg (by simp[h1]),if_pos hm,hop]
  ·have hm2:=List.mem_of_getElem? hop
   have:∀lvl,∀x∈iy lvl,bu x:=fun lvl=>by
    unfold iy;split<;>simp[bu]
   exact this lvl op hm2
 ·omega
def dM (lo hi ex:Nat)(x:Ex)(v:Value)(W:World):Prop:=hi≤W.heap.size∧∃S:Nat→Prop,bX W S x v∧∀b,S b→lo<b∧b<hi∧b≠ex
theorem dM.bL {lo hi ex:Nat}{x:Ex}{v:Value}{W W':World}(m:dM lo hi ex x v W)(hs:W.heap.size≤W'.heap.size)(hb:∀b,lo<b→b<hi→b≠ex→W'.heap[b]? =W.heap[b]?):dM lo hi ex x v W':=by
 obtain⟨h0,S,h1,h2⟩:=m;exact⟨Nat.le_trans h0 hs,S,h1.mono (fun _ h=>h) (fun a ha=>World.cell?_of_block (hb _ (h2 _ ha).1 (h2 _ ha).2.1 (h2 _ ha).2.2)),h2⟩
theorem dM.step {lo hi ex:Nat}{x:Ex}{v:Value}{W W':World}(m:dM lo hi ex x v W)(h:Below W.heap.size W W'):dM lo hi ex x v W':=m.bL h.size fun b _ h2 _=>h.block b (Nat.lt_of_lt_of_le h2 m.1)
theorem dM.fz {lo hi ex g:Nat}{x:Ex}{v:Value}{W W':World}(m:dM lo hi ex x v W)(h:Fz W.heap.size g W W')(hg:g≤lo):dM lo hi ex x v W':=m.bL h.size fun b h1 h2 _=>h.block b (Nat.lt_of_lt_of_le h2 m.1) (by omega)
theorem dM.put {lo hi ex g:Nat}{x:Ex}{v:Value}{T:TypeId}{cur cs:Array Value}{W W':World}{E:Prop}(m:dM lo hi ex x v W)(_k:aE W g T cur)(p:gI W W' g T cs)(_e:E)(hg:g≤lo∨g=ex∨hi≤g:=by omega):dM lo hi ex x v W':=
 m.bL (Nat.le_of_eq p.size.symm) fun b h1 h2 h3=>p.grown.block b (Nat.lt_of_lt_of_le h2 m.1) (fun e=>by injection e with e;omega)
theorem dM.but {lo hi ex g:Nat}{x:Ex}{v:Value}{W:World}(m:dM lo hi ex x v W)(hg:hi≤g):dM lo hi g x v W:=by
 obtain⟨h0,S,h1,h2⟩:=m;exact⟨h0,S,h1,fun b h=>⟨(h2 b h).1,(h2 b h).2.1,fun e=>by have:=(h2 b h).2.1;omega⟩⟩
theorem dM.up {lo hi ex:Nat}{x:Ex}{v:Value}{W:World}(m:dM lo hi ex x v W):dM lo W.heap.size ex x v W:=by
 obtain⟨h0,S,h1,h2⟩:=m;exact⟨Nat.le_refl _,S,h1,fun b h=>⟨(h2 b h).1,Nat.lt_of_lt_of_le (h2 b h).2.1 h0,(h2 b h).2.2⟩⟩
abbrev wS (x:Ex)(A:Option Addr)(c:Nat):Array Value:= #[.int .i64 x.op, .int .i64 x.n, .string (strOf x.name), .slice A x.args.length c]
theorem xz (K:Ctx)(hK:K.Ok)(n lvl:Nat)(hlt5:lvl<5)(hup:uV K (n+1) (lvl+1))(hall:∀m,m≤n→uV K m (lvl+1)):uV K (n+1) lvl:=by
 intro p d w pw hne;have he:=yq K.ws n lvl p d hlt5;obtain⟨R,hR⟩:∃R,R=(bp K.ws (n+1)).E lvl p d:=⟨_,rfl⟩;rw[←hR] at hne⊢;rw[←hR] at he;have bel:=Fz.refl w.heap.size K.g w;have k99:=pw.an;have e99:K.g=K.g:=rfl;have hlt:=pw.an.lt;have hle:=hK.le;have hlen:=hK.len;have hne1:(bp K.ws (n+1)).E (lvl+1) p d≠ .out:=Rs.dP (by rw[←he];exact hne);refine Zs 66 Tryz.func151 ?_;refine ah ?_;refine Zl au ?_;intro g4 w1 n4;have e4:=Nat.le_trans bel.size n4.ge;have l4:=Nat.lt_of_lt_of_le k99.lt n4.ge;replace bel:=bel.step n4.below;replace k99:=k99.step n4.below;have k4:=n4.an;refine bk 0 1 4 (az ?_);refine Zc (Ze Tryz.func195) (mR _) ?_;rintro e wlv ⟨gl,rfl,hb5,hlv⟩;refine⟨_,rfl,?_⟩;obtain⟨ga,gb,cc,dd,csl,lv⟩:=hlv lvl hlt5;replace bel:=bel.step hb5;replace k99:=k99.step hb5;replace k4:=k4.step hb5;have kp:=Kp.refl wlv;refine Za ?_;refine aS 0 1 4 5 (aH (ah ?_));refine Zm ?_;refine Zm ?_;refine Zv (aa.len rfl rfl Tryz.underlying244) ?_;refine aX ?_;refine aL 0 1 4 5 13 (Zt ?_);refine Cd.aI rfl (decide_eq_false (by omega)) ?_;refine Cd.skip (az ?_);refine Zm ?_;refine Zm ?_;refine dq ?_;have hcl:=hup p d _ (pw.to hle bel k99) hne1;have hcast:((lvl+1:Nat):Int)=(lvl:Int)+1:=by omega
 rw[hcast] at hcl;rcases Rs.bZ hne1 with ⟨q,ov,hr⟩|⟨x,q,hr⟩
 ·rw[hr] at hcl he
  refine Seq.bJ (Ze Tryz.func151) rfl hcl ?_;rintro e w8 ⟨hf,rfl,d6,hp6⟩;refine⟨_,rfl,fun a ha=>⟨ha.defers,?_⟩⟩;rw[he];exact⟨bel.call hf,rfl,d6,hp6⟩
 rw[hr] at hcl he;replace he:R=(bp K.ws (n+1)).L lvl x q d:=he;have hk4:=k4.lt;have hsb:=bel.size;refine Zc (Ze Tryz.func151) (hcl) ?_;rintro e wq ⟨hf,v6,rfl,pwq,S,hrep,hb⟩;refine⟨_,rfl,?_⟩;replace bel:=bel.call hf;replace k4:=k4.fz hf (by omega);replace kp:=kp.fz k99 hf;replace k99:=pwq.an;obtain⟨AX,cX,hvX⟩:=hrep.form;subst hvX;have rs:dM g4 wq.heap.size 0 x (.agg (wS x AX cX)) wq:=⟨Nat.le_refl _,S,hrep,fun b h=>⟨by have:=(hb b h).1;omega,(hb b h).2,by have:=(hb b h).1;omega⟩⟩;refine Zl au ?_;intro g6 w2 n6;have q6:=n6.ge;have e6:=Nat.le_trans bel.size n6.ge;have l6:=Nat.lt_of_lt_of_le k4.lt n6.ge;replace bel:=bel.step n6.below;replace k99:=k99.step n6.below;replace k4:=k4.step n6.below;replace kp:=kp.step n6.below;replace rs:=rs.step n6.below;have k6:=n6.an;refine Zo 4 k6 ?_;intro w3 pw3;replace bel:=bel.put k6 pw3 e6;replace k99:=k99.put pw3 (by omega);replace k4:=k4.put pw3 (by omega);replace kp:=kp.put k6 pw3 e6;replace rs:=rs.put k6 pw3 e6;replace k6:=pw3.an;refine aV 0 1 4 5 6 13 (Zt (Cd.block ?_));have h46:g4<g6:=by have:=hf.size;omega
 have h96:K.g<g6:=by omega
 refine Cd.loop (σ:=Nat × Ex × (Option Addr × Nat) × Nat) (fun s=>[(0, .pointer (some ⟨K.g,0,none⟩)),(1, .int .i64 (lvl:Int)),(4, .pointer (some ⟨g4,0,none⟩)),(5, .slice (some ⟨gl,0,none⟩) 5 5),(6, .pointer (some ⟨g6,0,none⟩))])
  (fun s wr=>PW K wr s.2.2.2 d false∧Fz w.heap.size K.g w wr∧aE wr g4 105 #[.int .i64 0, .int .i64 0, .string {data:= #[]}, .slice none 0 0]∧aE wr g6 105 (wS s.2.1 s.2.2.1.1 s.2.2.1.2)∧Kp wlv wr∧dM g4 wr.heap.size g6 s.2.1 (.agg (wS s.2.1 s.2.2.1.1 s.2.2.1.2)) wr∧s.1≤n+1∧R=(bp K.ws s.1).L lvl s.2.1 s.2.2.2 d)
  (fun s=>s.1) (n+1,x,(AX,cX),q) ⟨⟨k99,pw.rd.below (bel.below (by omega) hle),pwq.cj,pwq.cD⟩,bel,k4,k6,kp,(rs.but q6).up,Nat.le_refl _,he⟩ ⟨rfl,rfl,rfl,rfl,rfl,trivial⟩ ?_
 clear bel k4 k6 kp rs k99 he hne1 hr hcl;rintro⟨m,left,⟨AL,cL⟩,pl⟩ wr ⟨pw1,bel,k4,k6,kp,rs,hm,he⟩;dsimp only at pw1 k6 rs hm he⊢;have k99:=pw1.an;have h4r:=k4.lt;have hkps:=kp.size
 obtain⟨m,rfl⟩:∃m',m=m'+1:=by
  cases m with
  |zero=>exact absurd he (by intro h;exact hne (by rw[h];rfl))
  |succ m=>exact⟨m,rfl⟩
 have hstep:R=eB K.ws (bp K.ws m) lvl left pl d:=he;clear he;obtain⟨b1,b2,b3⟩:=K.ji pl;obtain⟨a1,a2,a3,a4,a5⟩:=hK.at_ pl
 have hsig:∀t∈bV lvl,∀x∈t,x<256:=by
  have:∀lvl,∀t∈bV lvl,∀x∈t,x<256:=fun lvl=>by
   unfold bV;split<;>decide
  exact this lvl
 have hw:=eR K hK pl d false wr pw1;unfold AO at hw;refine Cd.block (ah ?_);refine Zm ?_;refine Zc (Ze Tryz.func164) (hw) ?_;rintro e w8 ⟨rfl,hb8⟩;refine⟨_,rfl,?_⟩;have hs8:=hb8.size;replace bel:=bel.step hb8;replace k99:=k99.step hb8;replace k4:=k4.step hb8;replace kp:=kp.step hb8;replace rs:=rs.step hb8;replace k6:=k6.step hb8;refine Zl aZ ?_;intro g7 w4 n7;have q7:=n7.ge;have e7:=Nat.le_trans bel.size n7.ge;have l7:=Nat.lt_of_lt_of_le k6.lt n7.ge;replace bel:=bel.step n7.below;replace k99:=k99.step n7.below;replace k4:=k4.step n7.below;replace kp:=kp.step n7.below;replace rs:=rs.step n7.below;replace k6:=k6.step n7.below;have k7:=n7.an;refine Zo 4 k7 ?_;intro w5 pw5;replace bel:=bel.put k7 pw5 e7;replace k99:=k99.put pw5 (by omega);replace k4:=k4.put pw5 (by omega);replace kp:=kp.put k7 pw5 e7;replace rs:=rs.put k7 pw5 e7;replace k6:=k6.put pw5 (by omega);replace k7:=pw5.an;refine aV 0 1 4 5 6 7 (aH ?_)
 have haddL:Value.pointer (some ((⟨gl,0,none⟩:Addr).add (lvl*3)))= .pointer (some ⟨gl,lvl*3,none⟩):=by
  have:(⟨gl,0,none⟩:Addr).add (lvl*3)=⟨gl,lvl*3,none⟩:=by unfold Addr.add;split<;>simp_all
  rw[this]
 have hsl:(bV lvl).length≤1000:=by
  have:∀lvl,(bV lvl).length≤1000:=fun lvl=>by
   unfold bV;split<;>simp
  exact this lvl
 have hsv:(iK (bV lvl)).toArray.size=(bV lvl).length*1:=by simp[iK]
 refine gm 8 ?_;intro w6 hw6 zw6;replace bel:=bel.step hw6;replace k99:=k99.step hw6;replace k4:=k4.step hw6;replace kp:=kp.step hw6;replace rs:=rs.step hw6;replace k6:=k6.step hw6;replace k7:=k7.step hw6;have zbel:=bel.size;have zlt:=k7.lt;have kl:aE _ gl 248 csl:=kp.an lv.BU;have ksg:=kp.an lv.sg;have kop:=kp.an lv.op;refine fN ?_;refine fN ?_;refine Zd (fun w hG=>(aa.aU rfl rfl rfl Tryz.underlying244 (s:=3) (by kernel_rfl) (j:=lvl) rfl (by omega)).cast haddL) ?_;refine Zd (fun w hG=>aa.eX 0 rfl rfl Tryz.underlying248 rfl (by kernel_rfl)) ?_;refine Zd (fun w hG=>aa.ak (g:=gl) (i:=lvl*3) rfl rfl Tryz.underlying66 rfl (kl.step hG) lv.s0) ?_;refine gw 1 Tryz.underlying221 ?_;refine fb Tryz.underlying9 k7 ?_;refine Dr.cu rfl (fun w=>Ze Tryz.func139) rfl (fun w hG=>sV (bV lvl) (K.at_ pl).text (some ⟨ga,0,none⟩) cc w.heap.size w (Reads.an (ksg.step hG) _ hsv) (Nat.le_refl _) hsl hsig a3) ?_;refine Dr.nil ?_;refine bH.done (F':=[(0,_),(1,_),(4,_),(5,_),(6,_),(7,_),(29,_)]) rfl ⟨rfl,rfl,rfl,rfl,rfl,rfl,rfl,trivial⟩ ?_;intro w7 hw7 fw7;replace bel:=bel.step hw7;replace k99:=k99.step hw7;replace k4:=k4.step hw7;replace kp:=kp.step hw7;replace rs:=rs.step hw7;replace k6:=k6.step hw7;replace k7:=k7.step hw7;clear kl ksg kop;refine Za ?_;refine ba 0 1 4 5 6 7 8 (aH (ah ?_));refine Zf 0 Tryz.underlying221 ?_;refine ZL Tryz.underlying3 k7 ?_;refine jq ?_;refine Zm ?_;refine ar.start ?_;refine bB (fun hcx=>aa.move rfl rfl) ?_;refine Zn (fun hcx=>aa.lss rfl rfl rfl) ?_;refine fh ?_;refine bO 0 1 4 5 6 7 8 36 (Zt ?_);have pwc:PW K _ pl d false:=⟨k99,pw.rd.below (bel.below (by omega) hle),pw1.cj,pw1.cD⟩;refine Cd.cond rfl (fun hc=> ?_) (fun hc=> ?_)
 ·have hop:opAt K.ws lvl pl=none:=uX (by
   rw[←b1,←b2]
   simpa using hc)
  have hres:R= .ok left pl:=by rw[hstep];unfold eB;rw[hop]
  have hlt4:=k4.lt;have hlt6:=k6.lt;refine ah ?_;refine ZW 4 Tryz.underlying105 k6 ?_;refine Zo 4 k4 ?_;intro w8 pw8;replace bel:=bel.put k4 pw8 e4;replace k99:=k99.put pw8 (by omega);replace kp:=kp.put k4 pw8 e4;replace rs:=rs.put k4 pw8 e4;replace k6:=k6.put pw8 (by omega);replace k7:=k7.put pw8 (by omega);replace k4:=pw8.an;refine bO 0 1 4 5 6 7 8 36 (Zt (Cd.ret (ab.ae (ab.af (ab.aJ (ab.af ?_))))));refine iH 4 k4 Tryz.underlying105 ?_;rw[hres];have kk:=k99;obtain⟨hhi,S',hrep',hb'⟩:=rs;exact⟨bel,_,rfl,⟨k99,pw.rd.below (bel.below (by omega) hle),pw1.cj,pw1.cD⟩,S',hrep',fun b h=>⟨by have:=(hb' b h).1;omega,by have:=(hb' b h).2.1;omega⟩⟩
 obtain⟨hk0,hix⟩:(ez K.ws pl).kind=0∧¬jU (bV lvl) (ez K.ws pl).text<0:=by
  rw[←b1,←b2]
  simpa using hc
 obtain⟨ix,op,hix1,hix2,hopi,hop,hop64⟩:=uR hk0 hix;rw[←b2] at hix1;have hstep2:R=((bp K.ws m).E (lvl+1) (pl+1) d).bind fun r p=>if lvl=2 then .ok (zj op left r) p else(bp K.ws m).L lvl (zj op left r) p d:=by rw[hstep];unfold eB;rw[hop]
 have hp1:pl+1≤K.ws.length:=by
  rcases Nat.lt_or_ge pl K.ws.length with h|h
  ·exact h
  ·have h1:ez K.ws pl=⟨-1,[],0,0⟩:=by unfold ez;rw[List.getD_eq_getElem?_getD,List.getElem?_eq_none h];rfl
   rw[h1] at hk0;exact absurd hk0 (by decide)
 have hne2:(bp K.ws m).E (lvl+1) (pl+1) d≠ .out:=Rs.dP (by rw[←hstep2];exact hne);rw[hix1];refine Cd.skip (az ?_);refine Zm ?_;refine Zv (aa.nilCheck rfl rfl) ?_;refine Zf 1 Tryz.underlying219 ?_;refine ZL Tryz.underlying3 k99 ?_;refine dq ?_;refine Zv (aa.nilCheck rfl rfl) ?_;refine Zf 1 Tryz.underlying219 ?_;refine Zq k99 ?_;intro w8 pw8;replace bel:=bel.put k99 pw8 e99;replace k4:=k4.put pw8 (by omega);replace kp:=kp.put k99 pw8 e99;replace rs:=rs.put k99 pw8 e99;replace k6:=k6.put pw8 (by omega);replace k7:=k7.put pw8 (by omega);replace k99:=pw8.an;refine bO 0 1 4 5 6 7 8 36 (aH ?_);have kl:aE _ gl 248 csl:=kp.an lv.BU;have kop:=kp.an lv.op
 have haddI:Value.pointer (some ((⟨gb,0,none⟩:Addr).add ix))= .pointer (some ⟨gb,ix,none⟩):=by
  have:(⟨gb,0,none⟩:Addr).add ix=⟨gb,ix,none⟩:=by unfold Addr.add;split<;>simp_all
  rw[this]
 have hopc:(DI (iy lvl)).toArray[ix]? =some (.int .i64 op):=by
  rw[List.getElem?_toArray,zW,hopi];rfl
 have pwn:PW K w8 (pl+1) d false:=⟨by rw[Int.natCast_add];exact k99,pw.rd.below (bel.below (by omega) hle),hp1,pw1.cD⟩;have hw8g:K.g<w8.heap.size:=k99.lt;have hxl:=hall m (by omega);refine Cd.lH (σT:=Value × (Nat→Prop) × Nat) 15 (by kernel_rfl) rfl rfl (fun σ=>[.slice (some ⟨gl,0,none⟩) 5 5, .int .i64 (lvl:Int), .pointer (some ⟨gl,lvl*3,none⟩), .pointer (some ⟨gl,lvl*3+1,none⟩), .slice (some ⟨gb,0,none⟩) (iy lvl).length dd, .int .i64 (ix:Int), .pointer (some ⟨gb,ix,none⟩), .int .i64 op, .agg (wS left AL cL), .pointer (some ⟨K.g,0,none⟩), .int .i64 (lvl:Int), .int .i64 ((lvl:Int)+1),σ.1, .slice (some ⟨σ.2.2,0,none⟩) 2 2, .agg #[.int .i64 op, .int .i64 0, .string (strOf []), .slice (some ⟨σ.2.2,0,none⟩) 2 2]]) (fun σ S W=>XA bX K w8 (pl+1) d ((bp K.ws m).E (lvl+1) (pl+1) d) (S 12) (S 13) σ.2.1 σ.1 σ.2.2 105 (aC [.agg (wS left AL cL),σ.1]).toArray W) ((undef,fun _=>False,0)) ?_ ?_ ?_
 ·intro w0 hb0 hs0
  exact⟨Fz.of hb0,fun _=>pwn.step hle hb0,fun h=>(by cases h),fun h=>(by cases h)⟩
 ·intro k o ho
  match k,ho with
  |0,ho=>
   injection ho with ho
   subst ho;intro σ S w hS hpre hdc hX;refine Seq.val (aa.move rfl rfl) rfl rfl rfl (Seq.nil ?_);exact ab.aG rfl rfl rfl hpre rfl (fun _ _=>rfl) hX
  |1,ho=>
   injection ho with ho
   subst ho;intro σ S w hS hpre hdc hX;refine Seq.val (aa.move rfl rfl) rfl rfl rfl (Seq.nil ?_);exact ab.aG rfl rfl rfl hpre rfl (fun _ _=>rfl) hX
  |2,ho=>
   injection ho with ho
   subst ho;intro σ S w hS hpre hdc hX;refine Seq.val ((aa.aU rfl rfl rfl Tryz.underlying244 (s:=3) (by kernel_rfl) (j:=lvl) rfl (by omega)).cast haddL) rfl rfl rfl (Seq.nil ?_);exact ab.aG rfl rfl rfl hpre rfl (fun _ _=>rfl) hX
  |3,ho=>
   injection ho with ho
   subst ho;intro σ S w hS hpre hdc hX;refine Seq.val (aa.eX 1 rfl rfl Tryz.underlying248 rfl (by kernel_rfl)) rfl rfl rfl (Seq.nil ?_);exact ab.aG rfl rfl rfl hpre rfl (fun _ _=>rfl) hX
  |4,ho=>
   injection ho with ho
   subst ho;intro σ S w hS hpre hdc hX;refine Seq.val (aa.ak (g:=gl) (i:=lvl*3+1) rfl rfl Tryz.underlying96 rfl (kl.uL k99 hX.fz (Nat.le_refl _)) lv.s1) rfl rfl rfl (Seq.nil ?_);exact ab.aG rfl rfl rfl hpre rfl (fun _ _=>rfl) hX
  |5,ho=>
   injection ho with ho
   subst ho;intro σ S w hS hpre hdc hX;refine Seq.val (aa.move rfl rfl) rfl rfl rfl (Seq.nil ?_);exact ab.aG rfl rfl rfl hpre rfl (fun _ _=>rfl) hX
  |6,ho=>
   injection ho with ho
   subst ho;intro σ S w hS hpre hdc hX;refine Seq.val ((aa.gA rfl rfl rfl Tryz.underlying96 (by kernel_rfl) (j:=ix) rfl hix2).cast haddI) rfl rfl rfl (Seq.nil ?_);exact ab.aG rfl rfl rfl hpre rfl (fun _ _=>rfl) hX
  |7,ho=>
   injection ho with ho
   subst ho;intro σ S w hS hpre hdc hX;refine Seq.val (aa.ak (g:=gb) (i:=ix) rfl rfl Tryz.underlying3 rfl (kop.uL k99 hX.fz (Nat.le_refl _)) hopc) rfl rfl rfl (Seq.nil ?_);exact ab.aG rfl rfl rfl hpre rfl (fun _ _=>rfl) hX
  |8,ho=>
   injection ho with ho
   subst ho;intro σ S w hS hpre hdc hX;refine Seq.val (aa.dx rfl rfl Tryz.underlying105 rfl (k6.fz hX.fz (by omega)) (m:=4) (by kernel_rfl) rfl) rfl rfl rfl (Seq.nil ?_);exact ab.aG rfl rfl rfl hpre rfl (fun _ _=>rfl) hX
  |9,ho=>
   injection ho with ho
   subst ho;intro σ S w hS hpre hdc hX;refine Seq.val (aa.move rfl rfl) rfl rfl rfl (Seq.nil ?_);exact ab.aG rfl rfl rfl hpre rfl (fun _ _=>rfl) hX
  |10,ho=>
   injection ho with ho
   subst ho;intro σ S w hS hpre hdc hX;refine Seq.val (aa.move rfl rfl) rfl rfl rfl (Seq.nil ?_);exact ab.aG rfl rfl rfl hpre rfl (fun _ _=>rfl) hX
  |11,ho=>
   injection ho with ho
   subst ho;intro σ S w hS hpre hdc hX;refine Seq.val (aa.oE rfl rfl rfl (by omega) (by omega)) rfl rfl rfl (Seq.nil ?_);exact ab.aG rfl rfl rfl hpre rfl (fun _ _=>rfl) hX
  |12,ho=>
   injection ho with ho
   subst ho;intro σ S w hS hpre hdc hX
   have h13:S 13=false:=by
    cases h:S 13 with
    |false=>rfl
    |true=>have:=hdc 13 _ rfl h 12 (ax rfl);rw[hS] at this;cases this
   have hcl:=hxl (pl+1) d w (hX.pre hS) hne2;rw[hcast] at hcl;rcases Rs.bZ hne2 with ⟨q2,ov,hr⟩|⟨y,q2,hr⟩
   ·rw[hr] at hcl
    refine Seq.bJ (Ze Tryz.func151) rfl hcl ?_;rintro e w6 ⟨hf,rfl,d6,hp6⟩;refine⟨_,rfl,fun a ha=>⟨ha.defers,?_⟩⟩;rw[hstep2,hr];exact⟨bel.call (hX.fz.call hf),rfl,d6,hp6⟩
   ·rw[hr] at hcl
    refine Zc (Ze Tryz.func151) hcl ?_;rintro e w6 ⟨hf,v6,rfl,hp6,S6,hr6,hb6⟩;refine⟨_,rfl,Seq.nil ?_⟩;have hsz:=hX.fz.size;refine ab.aG (σ:=σ) (σ':=(v6,S6,σ.2.2)) rfl rfl rfl hpre rfl (fun j hj=> ?_) ⟨hX.fz.call hf,(fun h=>by cases h),fun _=>⟨y,q2,hr,hp6,hr6,fun b hb=>⟨by have:=(hb6 b hb).1;omega,(hb6 b hb).2⟩⟩,fun hm=> ?_⟩
    ·match j,hj with
     |0,_=>rfl
     |1,_=>rfl
     |2,_=>rfl
     |3,_=>rfl
     |4,_=>rfl
     |5,_=>rfl
     |6,_=>rfl
     |7,_=>rfl
     |8,_=>rfl
     |9,_=>rfl
     |10,_=>rfl
     |11,_=>rfl
     |12,hj=>rw[hS] at hj;cases hj
     |13,_=>rfl
     |14,_=>rfl
     |j+15,_=>rfl
    ·have hm:S 13=true:=hm
     rw[h13] at hm;cases hm
  |13,ho=>
   injection ho with ho
   subst ho;intro σ S w hS hpre hdc hX;obtain⟨y,q2,q1,pz,q3,q4⟩:=hX.post (hpre 12 (ax rfl));have hones:=q3.bt
   have h14:S 14=false:=by
    cases h:S 14 with
    |false=>rfl
    |true=>have:=hdc 14 _ rfl h 13 (ax rfl);rw[hS] at this;cases this
   refine Seq.slice (vs:=[.agg (wS left AL cL),σ.1]) (s:=4) rfl rfl rfl Tryz.underlying68 (by kernel_rfl) au (by omega) (by omega) ⟨rfl,hones.1,trivial⟩ rfl rfl rfl ?_;intro g7 w' n7;refine Seq.nil ?_;have hsz:=hX.fz.size;refine ab.aG (σ:=σ) (σ':=(σ.1,σ.2.1,g7)) rfl rfl rfl hpre rfl (fun j hj=> ?_) ⟨hX.fz.step n7.below,fun h=>(hX.pre h).step hle n7.below,fun h=> ?_,fun _=>⟨Nat.le_trans hsz n7.ge,n7.an,fun h hb=> ?_⟩⟩
   ·match j,hj with
    |0,_=>rfl
    |1,_=>rfl
    |2,_=>rfl
    |3,_=>rfl
    |4,_=>rfl
    |5,_=>rfl
    |6,_=>rfl
    |7,_=>rfl
    |8,_=>rfl
    |9,_=>rfl
    |10,_=>rfl
    |11,_=>rfl
    |12,_=>rfl
    |13,hj=>rw[hS] at hj;cases hj
    |14,hj=>rw[h14] at hj;cases hj
    |j+15,_=>rfl
   ·exact⟨y,q2,q1,pz.step hle n7.below,q3.mono (fun _ h=>h) (fun a ha=>n7.below.cell (q4 _ ha).2),fun b hb=>⟨(q4 b hb).1,Nat.lt_of_lt_of_le (q4 b hb).2 n7.below.size⟩⟩
   ·exact Nat.lt_irrefl _ (Nat.lt_of_lt_of_le (q4 _ hb).2 n7.ge)
  |14,ho=>
   injection ho with ho
   subst ho;intro σ S w hS hpre hdc hX;refine Seq.val (aa.build rfl rfl (qQ _ _ _)) rfl rfl rfl (Seq.nil ?_);exact ab.aG rfl rfl rfl hpre rfl (fun _ _=>rfl) hX
  |k+15,ho=>simp at ho
 rintro⟨vy,Sy,g58⟩ S2 wz hS2 hX;obtain⟨y,q2,hr2,pwz,hrepy,hby⟩:=hX.post (hS2 12 (by decide));obtain⟨e58,k58,hn58⟩:=hX.new (hS2 13 (by decide));dsimp only at hrepy hby e58 k58 hn58;have hn58:=hn58 (hS2 12 (by decide));have fzz:=hX.fz;clear hX;have hs8:=bel.size;have hszz:=fzz.size;have hl4:=k4.lt;have hl6:=k6.lt;have belz:=bel.call fzz;have k4z:=k4.fz fzz (by omega);have k6z:=k6.fz fzz (by omega);have kpz:=kp.fz k99 fzz;have rsz:=rs.fz fzz (by omega);obtain⟨AY,cY,hvY⟩:=hrepy.form;subst hvY;obtain⟨hhi,Sl,hrepl,hbl⟩:=rsz;have hhi8:=rs.1;have hadd58:(⟨g58,0,none⟩:Addr).add=fun j=>⟨g58,j,none⟩:=by funext j;unfold Addr.add;split<;>simp_all
 have rs2:dM g4 wz.heap.size g6 (zj op left y) (.agg (wS (zj op left y) (some ⟨g58,0,none⟩) 2)) wz:=by
  refine⟨Nat.le_refl _,fun b=>Sl b∨Sy b∨b=g58,bX.mk (args:=[left,y]) (vs:=[.agg (wS left AL cL), .agg (wS y AY cY)]) rfl (by simp) hop64 (by unfold bu;omega) (by simp) (by simp) (fun i e v h1 h2=> ?_) (fun _=>⟨⟨g58,0,none⟩,rfl, .inr (.inr rfl),fun j u hu=> ?_⟩),fun b hb=> ?_⟩
  ·match i,h1,h2 with
   |0,h1,h2=>
    simp at h1 h2;subst h1 h2;exact hrepl.mono (fun _ h=> .inl h) (fun _ _=>rfl)
   |1,h1,h2=>
    simp at h1 h2;subst h1 h2;exact hrepy.mono (fun _ h=> .inr (.inl h)) (fun _ _=>rfl)
   |i+2,h1,_=>simp at h1
  ·rw[hadd58,k58.cell j]
   have hu2:(aC [Value.agg (wS left AL cL),Value.agg (wS y AY cY)]).toArray[j]? =some u:=by simpa using hu
   exact hu2
  ·rcases hb with hb|hb|rfl
   ·obtain⟨h1,h2,h3⟩:=hbl b hb
    exact⟨h1,by omega,h3⟩
   ·obtain⟨h1,h2⟩:=hby b hb
    exact⟨by omega,h2,by omega⟩
   ·exact⟨by omega,k58.lt,by omega⟩
 have hstep3:R=if lvl=2 then .ok (zj op left y) q2 else(bp K.ws m).L lvl (zj op left y) q2 d:=by rw[hstep2,hr2];rfl
 clear bel k4 k6 kp rs k99 k7 kl kop;have bel:=belz;have k4:=k4z;have k6:=k6z;have kp:=kpz;have rs:=rs2;have k99:=pwz.an;refine Zo 4 k6 ?_;intro w9 pw9;replace bel:=bel.put k6 pw9 e6;replace kp:=kp.put k6 pw9 e6;replace rs:=rs.put k6 pw9 e6;replace k99:=k99.put pw9 (by omega);replace k4:=k4.put pw9 (by omega);replace k6:=pw9.an;refine bO 0 1 4 5 6 7 8 36 (az ?_);refine Zm ?_;refine Zm ?_;have kl:aE _ gl 248 csl:=kp.an lv.BU;refine Zv ((aa.aU rfl rfl rfl Tryz.underlying244 (s:=3) (by kernel_rfl) (j:=lvl) rfl (by omega)).cast haddL) ?_;refine Zv (aa.eX 2 rfl rfl Tryz.underlying248 rfl (by kernel_rfl)) ?_;refine Zv (aa.ak (g:=gl) (i:=lvl*3+2) rfl rfl Tryz.underlying4 rfl kl lv.s2) ?_;refine cw 0 1 4 5 6 7 8 36 64 (Zt ?_);refine Cd.ao rfl (fun h2=> ?_) (fun h2=> ?_)
 ·rw[if_pos h2] at hstep3
  have hlt4:=k4.lt;refine ah ?_;refine ZW 4 Tryz.underlying105 k6 ?_;refine Zo 4 k4 ?_;intro w10 pw10;replace bel:=bel.put k4 pw10 e4;replace kp:=kp.put k4 pw10 e4;replace rs:=rs.put k4 pw10 e4;replace k99:=k99.put pw10 (by omega);replace k6:=k6.put pw10 (by omega);replace k4:=pw10.an;refine cw 0 1 4 5 6 7 8 36 64 (Zt (Cd.ret (ab.af (ab.aJ (ab.af ?_)))));refine iH 4 k4 Tryz.underlying105 ?_;rw[hstep3];obtain⟨hhi2,S',hrep',hb'⟩:=rs;exact⟨bel,_,rfl,⟨k99,pw.rd.below (bel.below (by omega) hle),pwz.cj,pwz.cD⟩,S',hrep',fun b h=>⟨by have:=(hb' b h).1;omega,by have:=(hb' b h).2.1;omega⟩⟩
 ·rw[if_neg h2] at hstep3
  refine Cd.skip (ab.ag ?_);exact ab.round (m,zj op left y,(some ⟨g58,0,none⟩,2),q2) ⟨rfl,rfl,rfl,rfl,rfl,trivial⟩ ⟨⟨k99,pw.rd.below (bel.below (by omega) hle),pwz.cj,pwz.cD⟩,bel,k4,k6,kp,rs.up,by dsimp only;omega,hstep3⟩ (by dsimp only;omega)
theorem uk (K:Ctx)(hK:K.Ok)(n:Nat):(∀m,m≤n→yv K (bp K.ws m).S∧∀lvl,lvl≤5→uV K m lvl):=by
 induction n with
 |zero=>
  intro m hm;obtain rfl:m=0:=by omega
  exact⟨fun p d W _ h=>absurd rfl h,fun lvl _ p d W _ h=>absurd rfl h⟩
 |succ n ih=>
  intro m hm;rcases Nat.lt_or_ge m (n+1) with h|h
  ·exact ih m (by omega)
  obtain rfl:m=n+1:=by omega
  obtain⟨i1,i2⟩:=ih n (Nat.le_refl _)
  have hS:yv K (bp K.ws (n+1)).S:=fun p d W hp hne=>by
   have e:(bp K.ws (n+1)).S p d=cN K.ws (bp K.ws n).S ((bp K.ws n).E 0) p d:=rfl;rw[e] at hne⊢;exact vu K hK _ _ i1 (fun p d W hp hne=>i2 0 (by omega) p d W hp hne) p d W hp hne
  refine⟨hS,fun lvl hl=> ?_⟩
  have key:∀j lvl,lvl+j=5→uV K (n+1) lvl:=by
   intro j
   induction j with
   |zero=>intro lvl h;obtain rfl:lvl=5:=(by omega);exact wU K hK n hS
   |succ j ihj=>intro lvl h;exact xz K hK n lvl (by omega) (ihj (lvl+1) (by omega)) (fun m hm=>(ih m hm).2 (lvl+1) (by omega))
  exact key (5-lvl) lvl (by omega)
def o9 (x:Nat × Nat × Nat):Value:= .func (.func x.1) #[] #[.pointer (some ⟨x.2.1,0,none⟩), .pointer (some ⟨x.2.2,0,none⟩)]
def yo (K:Ctx)(gt:Nat)(x:Nat × Nat × Nat)(W:World):Prop:=aE W x.2.1 227 #[.pointer (some ⟨gt,0,none⟩)]∧aE W x.2.2 189 #[.pointer (some ⟨K.g,0,none⟩)]
def l0 (K:Ctx)(gt:Nat)(L:List (Nat × Nat × Nat))(W:World):Prop:=∀x∈L,yo K gt x W
theorem l0.step {K:Ctx}{gt:Nat}{L:List (Nat × Nat × Nat)}{W W':World}(h:l0 K gt L W)(hb:Below W.heap.size W W'):l0 K gt L W':=fun x hx=>⟨(h x hx).1.step hb,(h x hx).2.step hb⟩
theorem l0.app {K:Ctx}{gt B B' n size:Nat}{v:Value}{xs:List Value}{L:List (Nat × Nat × Nat)}{W W':World}(h:l0 K gt L W)(o:Own W B 1 size v n xs)(ha:App W W' B' v):l0 K gt L W':=fun x hx=>⟨(h x hx).1.app o ha,(h x hx).2.app o ha⟩
theorem l0.snoc {K:Ctx}{gt:Nat}{L:List (Nat × Nat × Nat)}{W:World}{x:Nat × Nat × Nat}(h:l0 K gt L W)(hx:yo K gt x W):l0 K gt (L++[x]) W:=fun y hy=>by
 rcases List.mem_append.1 hy with hy|hy
 ·exact h y hy
 ·obtain rfl:=List.mem_singleton.1 hy
  exact hx
theorem wN (K:Ctx)(gt:Nat)(w:World):Calls Tryz.prog 171 #[.pointer (some ⟨K.g,0,none⟩), .pointer (some ⟨gt,0,none⟩)] w fun e w'=>(∃a b,e= .returned (o9 (212,a,b))∧yo K gt (212,a,b) w')∧Grow w w':=by
 have bel:=Below.refl w.heap.size w;refine Zs 6 Tryz.func171 ?_;refine ah ?_;refine Seq.box rfl rfl rfl rfl rfl ?_;intro g2 w1 n2;have e2:=Nat.le_trans bel.size n2.ge;replace bel:=bel.step n2.below;have k2:=n2.an;refine Seq.box rfl rfl rfl rfl rfl ?_;intro g3 w2 n3;have e3:=Nat.le_trans bel.size n3.ge;have l3:=Nat.lt_of_lt_of_le k2.lt n3.ge;replace bel:=bel.step n3.below;replace k2:=k2.step n3.below;have k3:=n3.an;refine Za ?_;refine aL 0 1 2 3 4 (az ?_);refine Zv (aa.makeFunc (v:= .func (.func 212) #[] #[.pointer (some ⟨g3,0,none⟩), .pointer (some ⟨g2,0,none⟩)]) rfl (show fc _ _=some [] from rfl) (show fc _ _=some [.pointer (some ⟨g3,0,none⟩), .pointer (some ⟨g2,0,none⟩)] from rfl) rfl) ?_;refine Za ?_;refine aL 0 1 2 3 4 (Zt (Cd.ret ?_));refine aP ?_;exact⟨⟨_,_,rfl,k3,k2⟩,bel⟩
theorem uQ (K:Ctx)(gt:Nat)(w:World):Calls Tryz.prog 170 #[.pointer (some ⟨K.g,0,none⟩), .pointer (some ⟨gt,0,none⟩)] w fun e w'=>(∃a b,e= .returned (o9 (211,a,b))∧yo K gt (211,a,b) w')∧Grow w w':=by
 have bel:=Below.refl w.heap.size w;refine Zs 6 Tryz.func170 ?_;refine ah ?_;refine Seq.box rfl rfl rfl rfl rfl ?_;intro g2 w1 n2;have e2:=Nat.le_trans bel.size n2.ge;replace bel:=bel.step n2.below;have k2:=n2.an;refine Seq.box rfl rfl rfl rfl rfl ?_;intro g3 w2 n3;have e3:=Nat.le_trans bel.size n3.ge;have l3:=Nat.lt_of_lt_of_le k2.lt n3.ge;replace bel:=bel.step n3.below;replace k2:=k2.step n3.below;have k3:=n3.an;refine Za ?_;refine aL 0 1 2 3 4 (az ?_);refine Zv (aa.makeFunc (v:= .func (.func 211) #[] #[.pointer (some ⟨g3,0,none⟩), .pointer (some ⟨g2,0,none⟩)]) rfl (show fc _ _=some [] from rfl) (show fc _ _=some [.pointer (some ⟨g3,0,none⟩), .pointer (some ⟨g2,0,none⟩)] from rfl) rfl) ?_;refine Za ?_;refine aL 0 1 2 3 4 (Zt (Cd.ret ?_));refine aP ?_;exact⟨⟨_,_,rfl,k3,k2⟩,bel⟩
theorem AI:∀args w,(callFunc 212 args).run Tryz.prog w= .ok (.enter 212 args) w:=fun args w=>aF Tryz.func212 (by kernel_rfl) rfl args w
theorem zB:∀args w,(callFunc 211 args).run Tryz.prog w= .ok (.enter 211 args) w:=fun args w=>aF Tryz.func211 (by kernel_rfl) rfl args w
theorem xy:∀args w,(callFunc 167 args).run Tryz.prog w= .ok (.enter 167 args) w:=fun args w=>aF Tryz.func167 (by kernel_rfl) rfl args w
theorem vw (K:Ctx)(hK:K.Ok)(h0 gt b1 d p:Nat)(op:Int)(nm:List Nat)(vE vT:Value)(w:World)(pw:PW K w p d false)(hg0:K.g<h0)(hgt:h0≤gt)(hh:h0≤w.heap.size)(kt:aE w gt 71 #[.int .i64 op, .string (strOf nm),vE,vT]) (kb1:aE w b1 189 #[.pointer (some ⟨K.g,0,none⟩)]):
  Calls Tryz.prog 167 #[.pointer (some ⟨b1,0,none⟩), .pointer (some ⟨gt,0,none⟩)] w (qM K h0 w d (eA K.ws p) fun x _ W'=>Kp w W'∧aE W' gt 71 #[.int .i64 op, .string (strOf x),vE,vT]):=by
 have hle:=hK.le;have bel:=Fz.refl w.heap.size K.g w;have k1:=kb1;have hcl:=rJ K hK p d w pw;have hgl:=kt.lt;have hpl:=pw.an.lt;refine Zs 5 Tryz.func167 ?_;refine Zr ?_;refine ZL Tryz.underlying189 k1 ?_;rcases Rs.bZ (qR K.ws p) with ⟨q,ov,hr⟩|⟨x,q,hr⟩
 ·rw[hr] at hcl
  refine Seq.bJ (Ze Tryz.func168) rfl hcl ?_;rintro e w6 ⟨hf,rfl,d6,hp6⟩;refine⟨_,rfl,fun a ha=>⟨ha.defers,?_⟩⟩;rw[hr];exact⟨hf.less hh,rfl,d6,hp6⟩
 rw[hr] at hcl⊢;refine Zc (Ze Tryz.func168) (hcl) ?_;rintro e wq ⟨hf,v6,rfl,pwq,rfl⟩;refine⟨_,rfl,?_⟩;clear bel k1;have bel:Fz h0 K.g w wq:=hf.less hh;have kp:=(Kp.refl w).fz pw.an hf;have k2:=kt.fz hf (by omega);have k99:=pwq.an;have e2:h0≤gt:=hgt;have loc:Fz h0 K.g wq wq:=Fz.refl _ _ _;refine Zf 1 Tryz.underlying71 ?_;refine Zq k2 ?_;intro w1 pw1;replace bel:=bel.put k2 pw1 e2;replace kp:=kp.put k2 pw1 e2;replace k99:=k99.put pw1 (by omega);replace loc:=loc.put k2 pw1 e2;replace k2:=pw1.an;refine cZ 0 1 ?_;refine ab.du rfl (.inr rfl) ?_;exact⟨bel,_,rfl,⟨k99,pwq.rd.below (loc.below (by omega) hle),pwq.cj,pwq.cD⟩,kp,k2⟩
def AZ (K:Ctx)(T0:Nat→Nat→Rs Tm):Prop:=∀p d W,PW K W p d false→T0 p d≠ .out→Calls Tryz.prog 128 #[.pointer (some ⟨K.g,0,none⟩)] W (PR K W d (T0 p d) (BF W))
theorem qH (w:World):(Instr.build 71 #[(0, .int .i64 1)]).run Tryz.prog w= .ok (.agg #[.int .i64 1, .string (strOf []), .slice none 0 0, .slice none 0 0]) w:=by kernel_rfl
theorem qM.BB {α:Type}{K:Ctx}{h d:Nat}{w w':World}{r:Rs α}{ok1 ok2:α→Value→World→Prop}{e:Ending}(hr:qM K h w d r ok1 e w')(hm:∀a p v w',r= .ok a p→ok1 a v w'→ok2 a v w'):qM K h w d r ok2 e w':=by
 refine⟨hr.1,?_⟩
 cases r with
 |out=>exact hr.2
 |bad p o=>exact hr.2
 |ok a p=>obtain⟨v,h1,h2,h3⟩:=hr.2;exact⟨v,h1,h2,hm _ _ _ _ rfl h3⟩
theorem wK {K:Ctx}(hK:K.Ok){p q:Nat}{x:List Nat}(h:eA K.ws p= .ok x q):(∀c∈x,c<256)∧x.length≤4000:=by
 obtain⟨a1,a2,a3,a4,a5⟩:=hK.at_ p;obtain⟨b1,b2,b3⟩:=K.ji p;unfold eA at h;split at h
 ·injection h with h
  rw[←h,←b2];exact⟨a3,a4⟩
 ·cases h
theorem qM.map {α β:Type}{K:Ctx}{h d:Nat}{w w':World}{r:Rs α}{f:α→β}{ok1:α→Value→World→Prop}{ok2:β→Value→World→Prop}{e:Ending}(hr:qM K h w d r ok1 e w')(hm:∀a v w',ok1 a v w'→ok2 (f a) v w'):qM K h w d (r.map f) ok2 e w':=by
 refine⟨hr.1,?_⟩
 cases r with
 |out=>exact hr.2
 |bad p o=>exact hr.2
 |ok a p=>obtain⟨v,h1,h2,h3⟩:=hr.2;exact⟨v,h1,h2,hm _ _ _ h3⟩
theorem wG (K:Ctx)(hK:K.Ok)(E0:Nat→Nat→Rs Ex)(T0:Nat→Nat→Rs Tm)(hE:zy K E0)(hT:AZ K T0)(p d:Nat)(w:World)(pw:PW K w p d false)(hne:fV K.ws E0 T0 p d≠ .out):
  Calls Tryz.prog 128 #[.pointer (some ⟨K.g,0,none⟩)] w (PR K w d (fV K.ws E0 T0 p d) (BF w)):=by
 have bel:=Fz.refl w.heap.size K.g w;have k99:=pw.an;have e99:K.g=K.g:=rfl;have hlt:=pw.an.lt;have hlen:=hK.len;have hle:=hK.le;have hpl:=pw.cj;obtain⟨a1,a2,a3,a4,a5⟩:=hK.at_ p;obtain⟨b1,b2,b3⟩:=K.ji p;have hw:=fun W h=>eR K hK p d false W h;unfold AO at hw;obtain⟨op,hop⟩:∃op,op=(dU (K.at_ p).text).1:=⟨_,rfl⟩;obtain⟨ne,hnE⟩:∃ne,ne=(dU (K.at_ p).text).2.1:=⟨_,rfl⟩;obtain⟨ns,hnS⟩:∃ns,ns=(dU (K.at_ p).text).2.2:=⟨_,rfl⟩
 have hq:fV K.ws E0 T0 p d=if(K.at_ p).kind≠3 then .bad p false else if(K.at_ p).text=wW then .ok (.mk 1 [] [] []) (p+1)
   else if(K.at_ p).text=An then(bW K.ws [fun p _=>eA K.ws p] (p+1) d).bind fun xs p=> .ok (.mk 2 (xs.getD 0 []) [] []) p
   else if op=0 then .bad p false else(bW K.ws (iv E0 T0 ne ns) (p+1) d).bind fun xs p=> .ok (.mk op [] (dI xs) (cI xs)) p:=by
  rw[b1,hop,hnE,hnS,b2];unfold fV;rfl
 have hbd:ne≤1∧ns≤2∧bu op:=by
  rw[hop,hnE,hnS]
  have:∀t,(dU t).2.1≤1∧(dU t).2.2≤2∧bu (dU t).1:=fun t=>by
   unfold dU
   repeat' split
   all_goals exact⟨by decide,by decide,by unfold bu;decide⟩
  exact this _
 have hp:(K.at_ p).kind≠ -1→p+1≤K.ws.length:=fun hk=>by
  rcases Nat.lt_or_ge p K.ws.length with h|h
  ·exact h
  ·exact absurd (by unfold Ctx.at_;rw[List.getD_eq_getElem?_getD,List.getElem?_eq_none h];rfl) hk
 have hterms:=fun W=>vj (K.at_ p).text W a3;rw[←hop,←hnE,←hnS] at hterms;refine Zs 85 Tryz.func128 ?_;refine ah ?_;refine Seq.box rfl rfl rfl rfl rfl ?_;intro g1 w1 n1;have e1:=Nat.le_trans bel.size n1.ge;have l1:=Nat.lt_of_lt_of_le k99.lt n1.ge;replace bel:=bel.step n1.below;replace k99:=k99.step n1.below;have k1:=n1.an;refine Zl aK ?_;intro g2 w2 n2;have e2:=Nat.le_trans bel.size n2.ge;have l2:=Nat.lt_of_lt_of_le k1.lt n2.ge;replace bel:=bel.step n2.below;replace k99:=k99.step n2.below;replace k1:=k1.step n2.below;have k2:=n2.an;refine bk 0 1 2 (az ?_);refine ZL Tryz.underlying189 k1 ?_;refine Zc (Ze Tryz.func164) (hw _ (pw.to hle bel k99)) ?_;rintro e w5 ⟨rfl,hb5⟩;refine⟨_,rfl,?_⟩;replace bel:=bel.step hb5;replace k99:=k99.step hb5;replace k1:=k1.step hb5;replace k2:=k2.step hb5;refine Zl aZ ?_;intro g3 w3 n3;have e3:=Nat.le_trans bel.size n3.ge;have l3:=Nat.lt_of_lt_of_le k2.lt n3.ge;replace bel:=bel.step n3.below;replace k99:=k99.step n3.below;replace k1:=k1.step n3.below;replace k2:=k2.step n3.below;have k3:=n3.an;refine Zo 4 k3 ?_;intro w4 pw4;replace bel:=bel.put k3 pw4 e3;replace k99:=k99.put pw4 (by omega);replace k1:=k1.put pw4 (by omega);replace k2:=k2.put pw4 (by omega);replace k3:=pw4.an;refine aS 0 1 2 3 (aH (ah ?_));refine Zf 0 Tryz.underlying221 ?_;refine ZL Tryz.underlying3 k3 ?_;refine jq ?_;refine aL 0 1 2 3 13 (Zt ?_);refine Cd.ao rfl (fun c1=> ?_) (fun c1=> ?_)
 ·rw[if_pos c1] at hq
  refine Zr ?_;refine ZL Tryz.underlying189 k1 ?_;refine Seq.bJ (Ze Tryz.func165) rfl (gO K.g _) ?_;rintro e w6 ⟨rfl,hb6⟩;refine⟨_,rfl,fun a ha=>⟨ha.defers,?_⟩⟩;rw[hq];exact⟨bel.step hb6,rfl,d,pw.to hle (bel.step hb6) (k99.step hb6)⟩
 rw[if_neg c1] at hq;have hp1:=hp (by intro h;exact c1 (by rw[h];decide));refine Cd.skip (az ?_);refine Zl aK ?_;intro g4 w5 n4;have e4:=Nat.le_trans bel.size n4.ge;have l4:=Nat.lt_of_lt_of_le k3.lt n4.ge;replace bel:=bel.step n4.below;replace k99:=k99.step n4.below;replace k1:=k1.step n4.below;replace k2:=k2.step n4.below;replace k3:=k3.step n4.below;have k4:=n4.an;refine aV 0 1 2 3 4 13 (aH (ah ?_));refine Zf 1 Tryz.underlying221 ?_;refine ZL Tryz.underlying9 k3 ?_;refine ba 0 1 2 3 4 13 17 (Zt (Cd.block (ah ?_)));refine Zv (aa.ck (b:=wW) rfl rfl rfl a3 (by decide)) ?_;refine Za ?_;refine bO 0 1 2 3 4 13 17 18 (Zt ?_);refine Cd.ao rfl (fun c2=> ?_) (fun c2=> ?_)
 ·rw[if_pos c2] at hq
  refine ah ?_;refine ZL Tryz.underlying189 k1 ?_;refine Zv (aa.nilCheck rfl rfl) ?_;refine Zf 1 Tryz.underlying219 ?_;refine ZL Tryz.underlying3 k99 ?_;refine dq ?_;refine Zv (aa.nilCheck rfl rfl) ?_;refine Zf 1 Tryz.underlying219 ?_;refine Zq k99 ?_;intro w6 pw6;replace bel:=bel.put k99 pw6 e99;replace k1:=k1.put pw6 (by omega);replace k2:=k2.put pw6 (by omega);replace k3:=k3.put pw6 (by omega);replace k4:=k4.put pw6 (by omega);replace k99:=pw6.an;refine bO 0 1 2 3 4 13 17 18 (az ?_);refine Zv (aa.build rfl rfl (qH _)) ?_;refine Zo 4 k2 ?_;intro w7 pw7;replace bel:=bel.put k2 pw7 e2;replace k99:=k99.put pw7 (by omega);replace k1:=k1.put pw7 (by omega);replace k3:=k3.put pw7 (by omega);replace k4:=k4.put pw7 (by omega);replace k2:=pw7.an;refine bO 0 1 2 3 4 13 17 18 (Zt (Cd.ret (ab.af (ab.ae ?_))));refine iH 4 k2 Tryz.underlying71 ?_;rw[hq];exact⟨bel,_,rfl,pw.next hle hp1 bel k99,fun _=>False,dC.mk (es:=[]) (ts:=[]) (vs:=[]) (us:=[]) rfl rfl (by simp) (by simp) (by unfold bu;omega) (by simp) (by simp) (fun i e v h=>by simp at h) (fun i e v h=>by simp at h) (fun h=>absurd rfl h) (fun h=>absurd rfl h),fun b hb=>hb.elim⟩
 rw[if_neg c2] at hq;refine ah ?_;refine Zv (aa.ck (b:=An) rfl rfl rfl a3 (by decide)) ?_;refine Za ?_;refine cw 0 1 2 3 4 13 17 18 28 (Zt ?_);refine Cd.ao rfl (fun c3=> ?_) (fun c3=> ?_)
 ·rw[if_pos c3] at hq
  refine ah ?_;refine ZL Tryz.underlying189 k1 ?_;refine Zv (aa.nilCheck rfl rfl) ?_;refine Zf 1 Tryz.underlying219 ?_;refine ZL Tryz.underlying3 k99 ?_;refine dq ?_;refine Zv (aa.nilCheck rfl rfl) ?_;refine Zf 1 Tryz.underlying219 ?_;refine Zq k99 ?_;intro w6 pw6;replace bel:=bel.put k99 pw6 e99;replace k1:=k1.put pw6 (by omega);replace k2:=k2.put pw6 (by omega);replace k3:=k3.put pw6 (by omega);replace k4:=k4.put pw6 (by omega);replace k99:=pw6.an;refine cw 0 1 2 3 4 13 17 18 28 (az ?_);refine Zf 0 Tryz.underlying71 ?_;refine Zq k4 ?_;intro w7 pw7;replace bel:=bel.put k4 pw7 e4;replace k99:=k99.put pw7 (by omega);replace k1:=k1.put pw7 (by omega);replace k2:=k2.put pw7 (by omega);replace k3:=k3.put pw7 (by omega);replace k4:=pw7.an;refine cw 0 1 2 3 4 13 17 18 28 (az ?_);refine ZL Tryz.underlying189 k1 ?_;refine Zv (aa.makeFunc (v:= .func (.func 167) #[] #[.pointer (some ⟨g1,0,none⟩), .pointer (some ⟨g4,0,none⟩)]) rfl (show fc _ _=some [] from rfl) (show fc _ _=some [.pointer (some ⟨g1,0,none⟩), .pointer (some ⟨g4,0,none⟩)] from rfl) rfl) ?_;refine Seq.slice (vs:=[_]) (s:=1) rfl rfl rfl Tryz.underlying225 (by kernel_rfl) (cO) (by omega) (by omega) ⟨rfl,trivial⟩ rfl rfl rfl ?_;intro g40 w8 n40;have e40:=Nat.le_trans bel.size n40.ge;have l40:=Nat.lt_of_lt_of_le k4.lt n40.ge;replace bel:=bel.step n40.below;replace k99:=k99.step n40.below;replace k1:=k1.step n40.below;replace k2:=k2.step n40.below;replace k3:=k3.step n40.below;replace k4:=k4.step n40.below;have k40:=n40.an;have pw8:PW K w8 (p+1) d false:=⟨by rw[Int.natCast_add];exact k99,pw.rd.below (bel.below (by omega) hle),hp1,pw.cD⟩;obtain⟨R,hR⟩:∃R,R=bW K.ws [fun p _=>eA K.ws p] (p+1) d:=⟨_,rfl⟩;rw[←hR] at hq;have hneR:R≠ .out:=Rs.dP (by rw[←hq];exact hne);have hgg4:K.g<g4:=by omega
  have hwi:=gX K hK g4 [fun p _=>eA K.ws p] [(167,[Value.pointer (some ⟨g1,0,none⟩),Value.pointer (some ⟨g4,0,none⟩)])] (some ⟨g40,0,none⟩) 1
   (fun xs W=>Kp w8 W∧aE W g4 71 #[.int .i64 2, .string (strOf (xs.getD 0 [])), .slice none 0 0, .slice none 0 0]∧∀x∈xs,(∀c∈x,c<256)∧x.length≤4000) (p+1) d w8 pw8 (Nat.le_of_lt k4.lt) rfl (by simp)
   ⟨Kp.refl w8,k4,by simp⟩
   (fun xs W W' p d hM hp hf=>⟨hM.1.fz hp.an hf,hM.2.1.fz hf (by omega),hM.2.2⟩)
   (fun xs W j f cp hM hj=>by
    match j,hj with
    |0,hj=>
     simp at hj;obtain⟨e1,e2⟩:=hj;subst e1 e2;refine⟨_,rfl,?_⟩;have hb:=(hM.1.an k40).cell 0;exact hb
    |j+1,hj=>simp at hj)
   (fun j f cp hj=>by
    match j,hj with
    |0,hj=>
     simp at hj;obtain⟨e1,e2⟩:=hj;subst e1;exact xy
    |j+1,hj=>simp at hj)
   (fun j f cp one hj ho xs W p' hxl hpw hW hM hne1=>by
    match j,hj,ho,hxl with
    |0,hj,ho,hxl=>
     simp at hj ho;obtain⟨e1,e2⟩:=hj;subst e1 e2 ho;have hx0:xs=[]:=List.eq_nil_of_length_eq_zero hxl;subst hx0;exact(vw K hK g4 g4 g1 (d+1) p' 2 _ _ _ W hpw hgg4 (Nat.le_refl _) hW hM.2.1 (hM.1.an k1)).mono fun e W' hq=>hq.BB fun a p v W' hr h=>⟨hM.1.trans h.1,h.2,fun x hx=>by simp at hx;subst hx;exact wK hK hr⟩
    |j+1,hj,_,_=>simp at hj)
   (by rw[←hR];exact hneR)
  rw[←hR] at hwi;rcases Rs.bZ hneR with ⟨q,ov,hr⟩|⟨xs,q,hr⟩
  ·rw[hr] at hwi hq
   refine Seq.bJ (Ze Tryz.func166) rfl hwi ?_;rintro e w9 ⟨hf,rfl,d6,hp6⟩;refine⟨_,rfl,fun a ha=>⟨ha.defers,?_⟩⟩;rw[hq];exact⟨bel.trans (hf.less (by omega)),rfl,d6,hp6⟩
  have hxl:=fQ (hR.symm.trans hr)
  obtain⟨x,rfl⟩:∃x,xs=[x]:=by
   match xs,hxl with
   | [x],_=>exact⟨x,rfl⟩
  rw[hr] at hwi hq;replace hq:fV K.ws E0 T0 p d= .ok (.mk 2 x [] []) q:=hq;refine Zc (Ze Tryz.func166) (hwi) ?_;rintro e wq ⟨hf,v6,rfl,pwq,kpq,k4q,hxb⟩;have hxb:=hxb x (by simp);refine⟨_,rfl,?_⟩
  have k2q:aE wq g2 71 #[.int .i64 0, .string {data:= #[]}, .slice none 0 0, .slice none 0 0]:=by
   have h2:aE w8 g2 71 #[.int .i64 0, .string {data:= #[]}, .slice none 0 0, .slice none 0 0]:=k2;have h1:=hf.block g2 (by omega) (by omega);unfold aE at h2⊢;rw[h1];exact h2
  have belq:Fz w.heap.size K.g w wq:=bel.trans (hf.less (by omega));clear bel k1 k2 k3 k4 k40 k99;have bel:=belq;have k2:=k2q;have k4:aE wq g4 71 #[.int .i64 2, .string (strOf x), .slice none 0 0, .slice none 0 0]:=k4q;have hlt2:=k2.lt;refine cw 0 1 2 3 4 13 17 18 28 (az ?_);refine ZW 4 Tryz.underlying71 k4 ?_;refine Zo 4 k2 ?_;intro w9 pw9;replace bel:=bel.put k2 pw9 e2;replace k4:=k4.put pw9 (by omega);replace k2:=pw9.an;refine cw 0 1 2 3 4 13 17 18 28 (Zt (Cd.ret (ab.af (ab.ae ?_))));refine iH 4 k2 Tryz.underlying71 ?_;rw[hq];exact⟨bel,_,rfl,⟨pwq.an.put pw9 (by omega),pw.rd.below (bel.below (by omega) hle),pwq.cj,pwq.cD⟩,fun _=>False,dC.mk (es:=[]) (ts:=[]) (vs:=[]) (us:=[]) rfl rfl (by simp) (by simp) (by unfold bu;omega) hxb.1 (by have:=hxb.2;omega) (fun i e v h=>by simp at h) (fun i e v h=>by simp at h) (fun h=>absurd rfl h) (fun h=>absurd rfl h),fun b hb=>hb.elim⟩
 rw[if_neg c3] at hq;refine Cd.skip (ab.ag (az ?_));refine Zf 1 Tryz.underlying221 ?_;refine ZL Tryz.underlying9 k3 ?_;refine Zc (Ze Tryz.func169) (hterms _) ?_;rintro e w6 ⟨rfl,hb6⟩;refine⟨_,rfl,?_⟩;replace bel:=bel.step hb6;replace k99:=k99.step hb6;replace k1:=k1.step hb6;replace k2:=k2.step hb6;replace k3:=k3.step hb6;replace k4:=k4.step hb6;refine Zm ?_;refine Zx ?_;refine Zx ?_;refine Zx ?_;refine Za ?_;refine Za ?_;refine Za ?_;refine eZ 0 1 2 3 4 5 6 7 13 17 18 28 (aH (ah ?_));refine Zm ?_;refine aX ?_;refine iW 0 1 2 3 4 5 6 7 13 17 18 28 51 (Zt ?_);refine Cd.ao rfl (fun c4=> ?_) (fun c4=> ?_)
 ·rw[if_pos c4] at hq
  refine Zr ?_;refine ZL Tryz.underlying189 k1 ?_;refine Seq.bJ (Ze Tryz.func165) rfl (gO K.g _) ?_;rintro e w7 ⟨rfl,hb7⟩;refine⟨_,rfl,fun a ha=>⟨ha.defers,?_⟩⟩;rw[hq];exact⟨bel.step hb7,rfl,d,pw.to hle (bel.step hb7) (k99.step hb7)⟩
 rw[if_neg c4] at hq;refine Cd.skip (az ?_);refine ZL Tryz.underlying189 k1 ?_;refine Zv (aa.nilCheck rfl rfl) ?_;refine Zf 1 Tryz.underlying219 ?_;refine ZL Tryz.underlying3 k99 ?_;refine dq ?_;refine Zv (aa.nilCheck rfl rfl) ?_;refine Zf 1 Tryz.underlying219 ?_;refine Zq k99 ?_;intro w6 pw6;replace bel:=bel.put k99 pw6 e99;replace k1:=k1.put pw6 (by omega);replace k2:=k2.put pw6 (by omega);replace k3:=k3.put pw6 (by omega);replace k4:=k4.put pw6 (by omega);replace k99:=pw6.an;refine iW 0 1 2 3 4 5 6 7 13 17 18 28 51 (az ?_);refine Zm ?_;refine Zf 0 Tryz.underlying71 ?_;refine Zq k4 ?_;intro w7 pw7;replace bel:=bel.put k4 pw7 e4;replace k99:=k99.put pw7 (by omega);replace k1:=k1.put pw7 (by omega);replace k2:=k2.put pw7 (by omega);replace k3:=k3.put pw7 (by omega);replace k4:=pw7.an;refine iW 0 1 2 3 4 5 6 7 13 17 18 28 51 (az ?_);refine Za ?_;refine gM 0 1 2 3 4 5 6 7 8 13 17 18 28 51 (aH (ah ?_));refine Zm ?_;refine Zm ?_;refine mc 0 1 2 3 4 5 6 7 8 13 17 18 28 51 63 64 (Zt (Cd.block ?_));have pwl:PW K w7 (p+1) d false:=⟨by rw[Int.natCast_add];exact k99,pw.rd.below (bel.below (by omega) hle),hp1,pw.cD⟩;have k1o:=k1;have k2o:=k2;have k4o:=k4;have bel0:=bel;have hs0:=bel.size;have hk4l:=k4.lt;replace bel:=Below.refl w7.heap.size w7;have own:=Own.nil w7 w7.heap.size 1 1;have bx:l0 K g4 [] w7:=fun x hx=>by simp at hx
 refine Cd.loop (σ:=Nat × Value × List (Nat × Nat × Nat)) (fun s=>[(1, .pointer (some ⟨g1,0,none⟩)),(2, .pointer (some ⟨g2,0,none⟩)),(4, .pointer (some ⟨g4,0,none⟩)),(7, .int .i64 (ns:Int)),(8,s.2.1),(63, .int .i64 (ne:Int)),(64, .int .i64 (s.1:Int))])
  (fun s wr=>s.1≤ne∧Below w7.heap.size w7 wr∧s.2.2.map (·.1)=List.replicate s.1 211∧l0 K g4 s.2.2 wr∧Own wr w7.heap.size 1 1 s.2.1 (s.1) (s.2.2.map o9)) (fun s=>ne-s.1) (0, .slice none 0 0,[]) ⟨Nat.zero_le _,bel,rfl,bx,own⟩ ⟨rfl,rfl,rfl,rfl,rfl,rfl,rfl,trivial⟩ ?_
 clear k1 k2 k3 k4 k99;clear bel own bx;rintro⟨i,v,L⟩ wr ⟨hi,bel,hL,bx,own⟩;dsimp only at hi hL bx own⊢;have k1:=k1o.step bel;refine ah ?_;refine eU ?_;refine bO 1 2 4 7 8 63 64 65 (aH ?_);refine Cd.ao rfl (fun hc=> ?_) (fun hc=> ?_)
 ·skip
  refine Cd.skip (aH (Cd.block (Zr ?_)));refine Zm ?_;refine ZL Tryz.underlying189 k1 ?_;refine Zc (Ze Tryz.func170) (uQ K g4 _) ?_;rintro e w8 ⟨⟨a,b,rfl,hbx⟩,hb8⟩;refine⟨_,rfl,?_⟩;replace bel:=bel.step hb8;replace own:=own.step hb8;replace bx:=bx.step hb8;replace k1:=k1.step hb8;replace bx:=bx.snoc hbx;refine Seq.slice (vs:=[_]) (s:=1) rfl rfl rfl Tryz.underlying225 (by kernel_rfl) (cO) (by omega) (by omega) ⟨rfl,trivial⟩ rfl rfl rfl ?_;intro g69 w8 n69;have e69:=Nat.le_trans bel.size n69.ge;have l69:=Nat.lt_of_lt_of_le k1.lt n69.ge;replace bel:=bel.step n69.below;replace own:=own.step n69.below;replace bx:=bx.step n69.below;replace k1:=k1.step n69.below;have k69:=n69.an;refine Seq.append rfl rfl rfl Tryz.underlying225 (by kernel_rfl) cO rfl (by decide) (b:=8) (by kernel_rfl) own (Reads.an k69 1 rfl) (by intro x hx;simp[aC,Value.cells,o9] at hx;rw[hx];rfl) bel.size (by simp only[maxLen];omega) (by omega) rfl rfl rfl ?_;intro v2 wa own2 ha;replace bx:=bx.app own ha;replace bel:=bel.trans ha.below;clear own k1 k69;refine Za ?_;refine bO 1 2 4 7 8 63 64 65 (ab.ag (et ?_));refine dq ?_;refine Zm ?_;refine bO 1 2 4 7 8 63 64 65 ?_;refine ab.round (i+1,v2,L++[(211,a,b)]) ⟨rfl,rfl,rfl,rfl,rfl,rfl,rfl,trivial⟩ ⟨by dsimp only;omega,bel,?_,bx,?_⟩ (by dsimp only;omega)
  ·dsimp only
   rw[List.map_append,hL,List.replicate_succ'];rfl
  ·dsimp only
   rw[List.map_append];exact own2
 obtain rfl:i=ne:=by omega
 refine Cd.exit (ab.aD (ab.ay (ab.aA (aH (ah ?_)))));refine Zm ?_;refine Zm ?_;refine dr 1 2 4 7 8 63 64 65 72 73 (Zt (Cd.block ?_))
 refine Cd.loop (σ:=Nat × Value × List (Nat × Nat × Nat)) (fun s=>[(1, .pointer (some ⟨g1,0,none⟩)),(2, .pointer (some ⟨g2,0,none⟩)),(4, .pointer (some ⟨g4,0,none⟩)),(7, .int .i64 (ns:Int)),(8,s.2.1),(72, .int .i64 (ns:Int)),(73, .int .i64 (s.1:Int))])
  (fun s wr=>s.1≤ns∧Below w7.heap.size w7 wr∧s.2.2.map (·.1)=List.replicate i 211++List.replicate s.1 212∧l0 K g4 s.2.2 wr∧Own wr w7.heap.size 1 1 s.2.1 (i+s.1) (s.2.2.map o9)) (fun s=>ns-s.1) (0,v,L) ⟨Nat.zero_le _,bel,by simpa using hL,bx,own⟩ ⟨rfl,rfl,rfl,rfl,rfl,rfl,rfl,trivial⟩ ?_
 clear k1;clear bel own bx;rintro⟨j,v,L⟩ wr ⟨hj,bel,hL,bx,own⟩;dsimp only at hj hL bx own⊢;have k1:=k1o.step bel;refine ah ?_;refine eU ?_;refine bO 1 2 4 7 8 72 73 74 (aH ?_);refine Cd.ao rfl (fun hc=> ?_) (fun hc=> ?_)
 ·skip
  refine Cd.skip (aH (Cd.block (Zr ?_)));refine Zm ?_;refine ZL Tryz.underlying189 k1 ?_;refine Zc (Ze Tryz.func171) (wN K g4 _) ?_;rintro e w8 ⟨⟨a,b,rfl,hbx⟩,hb8⟩;refine⟨_,rfl,?_⟩;replace bel:=bel.step hb8;replace own:=own.step hb8;replace bx:=bx.step hb8;replace k1:=k1.step hb8;replace bx:=bx.snoc hbx;refine Seq.slice (vs:=[_]) (s:=1) rfl rfl rfl Tryz.underlying225 (by kernel_rfl) (cO) (by omega) (by omega) ⟨rfl,trivial⟩ rfl rfl rfl ?_;intro g78 w8 n78;have e78:=Nat.le_trans bel.size n78.ge;have l78:=Nat.lt_of_lt_of_le k1.lt n78.ge;replace bel:=bel.step n78.below;replace own:=own.step n78.below;replace bx:=bx.step n78.below;replace k1:=k1.step n78.below;have k78:=n78.an;refine Seq.append rfl rfl rfl Tryz.underlying225 (by kernel_rfl) cO rfl (by decide) (b:=8) (by kernel_rfl) own (Reads.an k78 1 rfl) (by intro x hx;simp[aC,Value.cells,o9] at hx;rw[hx];rfl) bel.size (by simp only[maxLen];omega) (by omega) rfl rfl rfl ?_;intro v2 wa own2 ha;replace bx:=bx.app own ha;replace bel:=bel.trans ha.below;clear own k1 k78;refine Za ?_;refine bO 1 2 4 7 8 72 73 74 (ab.ag (et ?_));refine dq ?_;refine Zm ?_;refine bO 1 2 4 7 8 72 73 74 ?_;refine ab.round (j+1,v2,L++[(212,a,b)]) ⟨rfl,rfl,rfl,rfl,rfl,rfl,rfl,trivial⟩ ⟨by dsimp only;omega,bel,?_,bx,?_⟩ (by dsimp only;omega)
  ·dsimp only
   rw[List.map_append,hL,List.replicate_succ',List.append_assoc];rfl
  ·dsimp only
   rw[List.map_append];exact own2
 obtain rfl:j=ns:=by omega
 refine Cd.exit (ab.aD (ab.ay (ab.aA (az ?_))));refine ZL Tryz.underlying189 k1 ?_;refine Zm ?_;have hsr:=bel.size;have pw9:=pwl.step hle bel;have k4:=k4o.step bel;have k2:=k2o.step bel;have hgg4:K.g<g4:=by omega
 obtain⟨AP,cP,rfl,-⟩:=own.reads;obtain⟨R,hR⟩:∃R,R=bW K.ws (iv E0 T0 i j) (p+1) d:=⟨_,rfl⟩;rw[←hR] at hq;have hneR:R≠ .out:=Rs.dP (by rw[←hq];exact hne);obtain⟨h1i,h2j,hop64⟩:=hbd
 have hLl:L.length=i+j:=by
  have:=congrArg List.length hL
  simpa using this
 have hol:(iv E0 T0 i j).length=i+j:=by unfold iv;simp
 have hexl:∀xs:List Part,(dI xs).length≤xs.length∧(cI xs).length≤xs.length:=fun xs=>⟨List.length_filterMap_le _ _,List.length_filterMap_le _ _⟩;have hfl:(L.map fun x=>(x.1,[Value.pointer (some ⟨x.2.1,0,none⟩),Value.pointer (some ⟨x.2.2,0,none⟩)])).length=i+j:=by rw[List.length_map,hLl]
 have hget:∀ {q f:Nat} {cp:List Value},(L.map fun x=>(x.1,[Value.pointer (some ⟨x.2.1,0,none⟩),Value.pointer (some ⟨x.2.2,0,none⟩)]))[q]? =some (f,cp)→∃x,L[q]? =some x∧x∈L∧f=x.1∧cp=[Value.pointer (some ⟨x.2.1,0,none⟩),Value.pointer (some ⟨x.2.2,0,none⟩)]:=fun {q f cp} h=>by
  rw[List.getElem?_map] at h
  cases hx:L[q]? with
  |none=>rw[hx] at h;cases h
  |some x=>
   rw[hx] at h;injection h with h
   injection h with e1 e2
   exact⟨x,rfl,List.mem_of_getElem? hx,e1.symm,e2.symm⟩
 have hfid:∀ {q:Nat} {x:Nat × Nat × Nat},L[q]? =some x→(q<i∧x.1=211)∨(i≤q∧x.1=212):=fun {q x} hx=>by
  have h1:(L.map (·.1))[q]? =some x.1:=by rw[List.getElem?_map,hx];rfl
  rw[hL] at h1;rcases Nat.lt_or_ge q i with hqi|hqi
  ·rw[List.getElem?_append_left (by simpa using hqi),List.getElem?_replicate,if_pos hqi] at h1
   injection h1 with h1
   exact .inl ⟨hqi,h1.symm⟩
  ·rw[List.getElem?_append_right (by simpa using hqi),List.length_replicate] at h1
   have hlt:=(List.getElem?_eq_some_iff.1 h1).1;rw[List.length_replicate] at hlt;rw[List.getElem?_replicate,if_pos hlt] at h1;injection h1 with h1
   exact .inr ⟨hqi,h1.symm⟩
 have hone:∀ {q:Nat} {one:Nat→Nat→Rs Part},(iv E0 T0 i j)[q]? =some one→(q<i→one=fun p d=>(E0 p d).map .inl)∧(i≤q→one=fun p d=>(T0 p d).map .inr):=fun {q one} h=>by
  unfold iv at h;refine⟨fun hqi=> ?_,fun hqi=> ?_⟩
  ·rw[List.getElem?_append_left (by simpa using hqi),List.getElem?_replicate,if_pos hqi] at h
   injection h with h
   exact h.symm
  ·rw[List.getElem?_append_right (by simpa using hqi),List.length_replicate] at h
   have hlt:=(List.getElem?_eq_some_iff.1 h).1;rw[List.length_replicate] at hlt;rw[List.getElem?_replicate,if_pos hlt] at h;injection h with h
   exact h.symm
 have hwi:=gX K hK g4 (iv E0 T0 i j) (L.map fun x=>(x.1,[Value.pointer (some ⟨x.2.1,0,none⟩),Value.pointer (some ⟨x.2.2,0,none⟩)])) AP cP
  (fun xs W=>Kp wr W∧∃evs tvs vE vT S,aE W g4 71 #[.int .i64 op, .string (strOf []),vE,vT]∧cW W g4 g4 (dI xs) (cI xs) evs tvs vE vT S) (p+1) d wr pw9 (Nat.le_of_lt k4.lt) (by rw[hfl,hol]) (by rw[hol];omega)
  ⟨Kp.refl wr,[],[],_,_,_,k4,cW.nil wr g4 g4⟩
  (fun xs W W' p d hM hp hf=>by
   obtain⟨kp,evs,tvs,vE,vT,S,kt,aq⟩:=hM;exact⟨kp.fz hp.an hf,evs,tvs,vE,vT,S,kt.fz hf (by omega),aq.fz hf hgg4⟩)
  (fun xs W q f cp hM hj=>by
   obtain⟨kp,-⟩:=hM;obtain⟨x,hx,hxm,rfl,rfl⟩:=hget hj;obtain⟨A',c',hv,hr⟩:=(kp.own own).reads;injection hv with hv _ _
   subst hv;have hql:=(List.getElem?_eq_some_iff.1 hx).1;obtain⟨ad,hA,-,hc⟩:=hr.2 (by omega);exact⟨ad,hA,hc q _ (by rw[List.getElem?_map,hx];rfl)⟩)
  (fun q f cp hj=>by
   obtain⟨x,hx,hxm,rfl,rfl⟩:=hget hj;rcases hfid hx with ⟨-,e⟩|⟨-,e⟩
   ·rw[e];exact zB
   ·rw[e];exact AI)
  (fun q f cp one hj ho xs W p' hxl hpw hW hM hne1=>by
   obtain⟨x,hx,hxm,rfl,rfl⟩:=hget hj;have hql:=(List.getElem?_eq_some_iff.1 hx).1;obtain⟨o1,o2⟩:=hone ho;obtain⟨kp,evs,tvs,vE,vT,S,kt,aq⟩:=hM;obtain⟨bx1,bx2⟩:=bx x hxm;obtain⟨l1,l2⟩:=hexl xs;rcases hfid hx with ⟨hqi,e⟩|⟨hqi,e⟩
   ·have ho1:=o1 hqi
    subst ho1;have hne2:E0 p' (d+1)≠ .out:=Rs.dP hne1;rw[e]
    exact(vp K hK g4 g4 x.2.1 x.2.2 (d+1) p' op [] (dI xs) (cI xs) evs tvs vE vT S E0 W hpw hgg4 (Nat.le_refl _) hW kt (kp.an bx1) (kp.an bx2) aq (by omega) (fun W' h1 _=>hE p' (d+1) W' h1 hne2) hne2).mono fun e W' hq=>hq.map fun a v W' h=>⟨kp.trans h.1,by
     have e1:dI (xs++[.inl a])=dI xs++[a]:=by unfold dI;rw[List.filterMap_append];rfl
     have e2:cI (xs++[.inl a])=cI xs:=by unfold cI;rw[List.filterMap_append];simp
     rw[e1,e2];exact h.2⟩
   ·have ho2:=o2 hqi
    subst ho2;have hne2:T0 p' (d+1)≠ .out:=Rs.dP hne1;rw[e]
    exact(xb K hK g4 g4 x.2.1 x.2.2 (d+1) p' op [] (dI xs) (cI xs) evs tvs vE vT S T0 W hpw hgg4 (Nat.le_refl _) hW kt (kp.an bx1) (kp.an bx2) aq (by omega) (fun W' h1 _=>hT p' (d+1) W' h1 hne2) hne2).mono fun e W' hq=>hq.map fun a v W' h=>⟨kp.trans h.1,by
     have e1:dI (xs++[.inr a])=dI xs:=by unfold dI;rw[List.filterMap_append];simp
     have e2:cI (xs++[.inr a])=cI xs++[a]:=by unfold cI;rw[List.filterMap_append];rfl
     rw[e1,e2];exact h.2⟩)
  (by rw[←hR];exact hneR)
 rw[←hR,hfl] at hwi;rcases Rs.bZ hneR with ⟨q,ov,hr⟩|⟨xs,q,hr⟩
 ·rw[hr] at hwi hq
  refine Seq.bJ (Ze Tryz.func166) rfl hwi ?_;rintro e w9 ⟨hf,rfl,d6,hp6⟩;refine⟨_,rfl,fun a ha=>⟨ha.defers,?_⟩⟩;rw[hq];exact⟨(bel0.step bel).trans (hf.less (by omega)),rfl,d6,hp6⟩
 have hxl:=fQ (hR.symm.trans hr);rw[hol] at hxl;obtain⟨l1,l2⟩:=hexl xs;rw[hr] at hwi hq;replace hq:fV K.ws E0 T0 p d= .ok (.mk op [] (dI xs) (cI xs)) q:=hq;refine Zc (Ze Tryz.func166) (hwi) ?_;rintro e wq ⟨hf,v6,rfl,pwq,kpq,evs,tvs,vE,vT,S,k4q,aqq⟩;refine⟨_,rfl,?_⟩
 have k2q:aE wq g2 71 #[.int .i64 0, .string {data:= #[]}, .slice none 0 0, .slice none 0 0]:=by
  have h2:aE wr g2 71 #[.int .i64 0, .string {data:= #[]}, .slice none 0 0, .slice none 0 0]:=k2;have h1:=hf.block g2 (by omega) (by omega);unfold aE at h2⊢;rw[h1];exact h2
 have belq:Fz w.heap.size K.g w wq:=(bel0.step bel).trans (hf.less (by omega));have hrep:=aqq.tm op [] hop64 (by simp) (by simp) (by omega) (by omega);have hbn:=aqq.bounds;obtain⟨AE,cE,hvE,-⟩:=aqq.fo.reads;obtain⟨AT,cT,hvT,-⟩:=aqq.iE.reads;subst hvE hvT;clear bel k1 k2 k4;have bel:=belq;have k2:=k2q;have k4:=k4q;have hlt2:=k2.lt;refine bO 1 2 4 7 8 72 73 74 (az ?_);refine ZW 4 Tryz.underlying71 k4 ?_;refine Zo 4 k2 ?_;intro w8 pw8;replace bel:=bel.put k2 pw8 e2;replace k4:=k4.put pw8 (by omega);replace k2:=pw8.an;refine bO 1 2 4 7 8 72 73 74 (Zt (Cd.ret ?_));refine iH 4 k2 Tryz.underlying71 ?_;rw[hq];have hsz:=pw8.size;refine⟨bel,_,rfl,⟨pwq.an.put pw8 (by omega),pw.rd.below (bel.below (by omega) hle),pwq.cj,pwq.cD⟩,_,hrep.mono (fun _ h=>h) (fun a ha=>World.cell?_of_block (pw8.grown.block _ (hbn _ ha).2.1 (fun e=>by injection e with e;have:=(hbn _ ha).1;omega))),fun b hb=> ?_⟩;obtain⟨h1,h2,-⟩:=hbn b hb;exact⟨by omega,by omega⟩
theorem r8 (K:Ctx)(hK:K.Ok):∀n,AZ K (lI K.ws n)
 |0=>fun p d W _ h=>absurd rfl h
 |n+1=>fun p d W hp hne=>wG K hK ((bp K.ws (n+1)).E 0) (lI K.ws n) (fun p d W hp hne=>(uk K hK (n+1) (n+1) (Nat.le_refl _)).2 0 (by omega) p d W hp hne) (r8 K hK n) p d W hp hne
theorem tj (g:Nat)(w:World):CallsD Tryz.prog 207 #[.pointer (some ⟨g,0,none⟩)] .returning w fun e u' w'=>e= .returned (.tuple #[])∧u'= .returning∧w'=w:=by
 refine callsD_of_wpS Tryz.func207 rfl fun c₀ cs hu=> ?_;apply wpS_seq;apply wpS_region;simp[wpOpsS,go_sem,recoverD,hu,Tryz.ntmps207,Exit.thenS];apply wpS_seq;apply wpS_region;simp[wpOpsS,go_sem,recoverD,hu,Exit.thenS,Tryz.underlying20];refine wpS_cond (t:=false) (by simp[Act.eval,Array.replicate]) ?_;simp only[Bool.false_eq_true,if_false];refine wpS_of_wp (wp_skip ?_)
 cases c₀
 simp_all [bodyPostS,results,Tryz.results207]
theorem mf:br Tryz.prog 261=some (some (.agg #[])):=by kernel_rfl
theorem aa.typeAssert {P:Program}{E:Operand→Option Value}{o:Oper}{w:World}{x:Operand}{T T':TypeId}{b:Bool}{v u:Value}(ho:o.op= .typeAssert x T T' b)(hx:E x=some v)(hr:(Instr.typeAssert v T T' b).run P w= .ok u w):aa P E o w u w:=fun ρ h=>by
 unfold execOp;simp only[ho];rw[h _ _ hx];simp only[Sem.run_bind,hr,Result.andThen_ok];rfl
theorem Cd.at_ {P:Program}{c:Code}{Q:Exit→Act→World→Prop}{n:Nat}{F:List (Nat × Value)}{w:World}{a:Act}(h:Cd P c Q n F w)(ha:Fr n F a):c.wp P Q a w:=h a ha
theorem sG (g:Nat)(b:Bool)(w:World)(hb:aE w g 4 #[.bool b]):CallsD Tryz.prog 207 #[.pointer (some ⟨g,0,none⟩)] (.panicking lr) w fun e u' w'=>
  e= .returned (.tuple #[])∧u'= .panicking [{v:= .iface 261 (.agg #[]),recovered:=true}]∧aE w' g 4 #[.bool false]∧w.grownBy w' (some g):=by
 refine callsD_of_wpS Tryz.func207 rfl fun c₀ cs hu=> ?_;unfold lr at hu;apply wpS_seq;apply wpS_region;simp[wpOpsS,go_sem,recoverD,hu,Tryz.ntmps207,Exit.thenS];apply wpS_seq;apply wpS_region;simp[wpOpsS,go_sem,recoverD,hu,Exit.thenS,Tryz.underlying20];refine wpS_cond (t:=true) (by simp[Act.eval,Array.replicate]) ?_;simp only[if_true];refine wpS_of_wp ?_;refine Cd.at_ (n:=15) (F:=[(0, .pointer (some ⟨g,0,none⟩)),(1, .iface 261 (.agg #[]))]) ?_ ⟨by simp,rfl,fun t v ht=> ?_⟩
 ·refine Cd.seq ?_
  refine ah ?_;refine Zm ?_;refine Zv (aa.typeAssert (u:= .tuple #[.agg #[], .bool true]) rfl rfl (by kernel_rfl)) ?_;refine Zm ?_;refine Zx ?_;refine Zx ?_;refine Zl mf ?_;intro g2 w1 n2;have hb1:=hb.step n2.below;refine Seq.ij (m:=0) rfl rfl rfl rfl (by kernel_rfl) rfl trivial n2.an (by simp[Value.cells]) rfl rfl ?_;intro w2 p2;have hne:g≠g2:=by have:=hb.lt;have:=n2.ge;omega
  have hb2:=hb1.put p2 hne;refine Za ?_;refine Seq.nil (az ?_);refine Zm ?_;refine gU ?_;refine Seq.nil (Zt ?_);refine Cd.aI rfl rfl ?_;refine Cd.skip (et ?_);refine Zq hb2 ?_;intro w3 p3;refine Seq.nil ?_;intro a ha
  have hgr:w.grownBy w3 (some g):=by
   have h1:w.grownBy w1 (some g):=⟨n2.below.os,n2.below.tape,n2.below.output,n2.below.size,fun k hk _=>n2.below.block k hk⟩;have h2:w1.heap.size=w2.heap.size:=p2.size.symm;refine⟨p3.grown.os.trans (p2.grown.os.trans h1.os),p3.grown.tape.trans (p2.grown.tape.trans h1.tape),p3.grown.output.trans (p2.grown.output.trans h1.output),by have:=h1.size;have:=p2.size;have:=p3.size;omega,fun k hk hne2=> ?_⟩;have hge:=n2.ge;have hs1:=h1.size;rw[p3.grown.block k (by omega) hne2,p2.grown.block k (by omega) (fun e=>by injection e with e;omega)];exact h1.block k hk hne2
  refine⟨ha.defers,_,?_, .tuple #[],?_,rfl,rfl,p3.an,hgr⟩
  ·cases c₀
   simp_all
  ·exact results_none rfl _ _ _
 rcases bA ht with ⟨rfl,rfl⟩|⟨-,ht⟩
 ·simp
 rcases bA ht with ⟨rfl,rfl⟩|⟨-,ht⟩
 ·simp
 cases ht
def j3 (g:FuncId)(cap:List Value):Deferred:= {target:= .fn (.func g) cap.toArray,args:= #[]}
theorem Seq.Aj {P:Program}{ops:Array Oper}{Q:Exit→Act→World→Prop}{rest:List Oper}{o:Oper}{n t:Nat}{F:List (Nat × Value)}{w:World}{g:FuncId}{cap:List Value}{ts:Array TypeId}(ho:o.op= .defer {callee:= .value (.tmp t),args:= #[],argTypes:=ts}) (hx:dg F (.tmp t)=some (.func (.func g) #[] cap.toArray)) (hg:o.guard=none) (hd:o.dst=none)
  (h:∀I:Inhabited (List Deferred),I.default=[j3 g cap]→ @Seq I P ops Q rest n F w):Seq P ops Q (o::rest) n F w:=by
 intro a ha;refine wpList_plain hg fun K hK=> ?_
 have hr:(execOp a.eval o).run P w= .ok (.defer (j3 g cap)) w:=by
  unfold execOp;have hf:a.eval (.tmp t)= .func (.func g) #[] cap.toArray:=ha.ev _ _ hx;simp only[ho,resolve,hf,Deferred.ofValue,Sem.run_bind,Sem.run_pure,Result.andThen_ok];simp[j3]
 unfold Oper.wp;rw[hr,Oper.upon_defer,hd];have hD:j3 g cap::a.defers=[j3 g cap]:=by rw[ha.defers];rfl
 exact hK _ _ (h ⟨[j3 g cap]⟩ rfl _ (@Fr.mk ⟨[j3 g cap]⟩ n F _ ha.size hD ha.slot))
theorem kJ {P:Program}{fn:Func}{p g:Nat}{ty t:TypeId}{b:Bool}{w:World}(h:fn.results= #[.cell p ty]) (tmps:Array Value) (hp:tmps[p]? =some (.pointer (some ⟨g,0,none⟩))) (hu:P.underlying ty=some .bool) (hb:aE w g t #[.bool b]):(results fn tmps).run P w= .ok (.bool b) w:=by
 have hagg:(isAgg ty).run P w= .ok false w:=by
  unfold isAgg;rw[Sem.run_bind,run_underlying hu w];rfl
 have hc:w.cell? ⟨g,0,none⟩=some (.bool b):=by rw[hb.cell 0];rfl
 simp[results,h,hp,asAddr,loadVar,Sem.run_bind,hagg,go_sem,hc]
def BX {α:Type}(K:Ctx)(h:Nat)(w:World)(r:Rs α)(okv:α→World→Prop)(e:Ending)(w':World):Prop:=
 Fz h K.g w w'∧Kp w w'∧match r with
 | .out=>False
 | .bad p ov=>e= .returned (.bool false)∧∃d,PW K w' p d ov
 | .ok a p=>e= .returned (.bool (decide (p=K.ws.length)))∧(∃d,PW K w' p d false)∧okv a w'
def AM {α:Type}(K:Ctx)(h:Nat)(W:World)(r:Rs α)(okv:α→World→Prop)(e:Ending)(W':World):Prop:=match r with
 | .out=>False
 | .bad p ov=>Fz W.heap.size K.g W W'∧e= .panicked lr∧∃d,PW K W' p d ov
 | .ok a p=>Fz h K.g W W'∧Kp W W'∧(∃v,e= .returned v)∧PW K W' p 0 false∧okv a W'
theorem wh {α:Type}(K:Ctx)(hK:K.Ok)(f:Nat)(cp:List Value)(h:Nat)(r:Rs α)(okv:World→α→World→Prop)(ok2:α→World→Prop)(w:World)(pw:PW K w 0 0 false)(hh:h≤w.heap.size)(hne:r≠ .out)(eg:∀args w,(callFunc f args).run Tryz.prog w= .ok (.enter f args) w)
  (hok:∀a W0 W W' g,okv W0 a W→w.heap.size≤g→g<W0.heap.size→W0.heap.size≤W.heap.size→W.heap.size≤W'.heap.size→(∀k,k<W.heap.size→k≠g→W'.heap[k]? =W.heap[k]?)→ok2 a W')
  (hc:∀W,Below w.heap.size w W→PW K W 0 0 false→Calls Tryz.prog f cp.toArray W (AM K h W r (okv W))):
  Calls Tryz.prog 162 #[.pointer (some ⟨K.g,0,none⟩), .func (.func f) #[] cp.toArray] w (BX K h w r ok2):=by
 have bel:=Below.refl w.heap.size w;have hle:=hK.le;have hlt:=pw.an.lt;have hen:∀args w,(callFunc 207 args).run Tryz.prog w= .ok (.enter 207 args) w:=fun args w=>aF Tryz.func207 (by kernel_rfl) rfl args w;refine Calls.yk 18 Tryz.func162 rfl rfl rfl ?_;refine ah ?_;refine Zl ly ?_;intro g4 w1 n4;have e4:=Nat.le_trans bel.size n4.ge;replace bel:=bel.step n4.below;have k4:=n4.an;refine bk 0 1 4 (az ?_);refine Zv (aa.makeFunc (v:= .func (.func 207) #[] #[.pointer (some ⟨g4,0,none⟩)]) rfl (show fc _ _=some [] from rfl) (show fc _ _=some [.pointer (some ⟨g4,0,none⟩)] from rfl) rfl) ?_;refine Seq.Aj (cap:=[.pointer (some ⟨g4,0,none⟩)]) rfl rfl rfl rfl ?_;intro I hI;have hcl:=hc _ bel (pw.step hle bel);have hltc:=k4.lt;have kp:Kp w w1:=(Kp.refl w).step bel;have hs1:=bel.size;refine bk 0 1 4 (az ?_);refine Zm ?_;rcases Rs.bZ hne with ⟨q,ov,hr⟩|⟨x,q,hr⟩
 ·rw[hr] at hcl⊢
  refine Seq.bJ (Enters.value (first:=[]) (cap:=cp) rfl rfl rfl eg) rfl hcl ?_;rintro e w6 ⟨hf,rfl,d6,hp6⟩;refine⟨_,rfl,fun a ha=> ?_⟩;have k46:=k4.fz hf (by omega);show Leaves Tryz.prog _ a.tmps _ a.defers (.panicking lr) w6;rw[ha.defers,hI];refine leaves_cons (by simp) (f:=207) (args:= #[.pointer (some ⟨g4,0,none⟩)]) (by simp[invoke,hen]) ((sG g4 false w6 k46).mono fun e u' w' ⟨h1,h2,h3,h4⟩=> ?_);subst h1 h2;have hfw:Fz h K.g w w6:=(Fz.of (bel.mono hh)).trans (hf.less (by omega))
  have hg4:Fz h K.g w6 w':=⟨h4.os,h4.tape,h4.output,h4.size,fun k hk _=>by
   have:=hf.size;exact h4.block k (by omega) (fun e=>by injection e with e;omega)⟩
  have kp6:Kp w w6:=kp.fz (pw.step hle bel).an hf;refine⟨_,kJ rfl a.tmps (ha.slot 4 _ rfl) Tryz.underlying4 h3,hfw.trans hg4,⟨Nat.le_trans kp6.size h4.size,fun k t cs hb h1 h2 h3'=>(kp6.bL k t cs hb h1 h2 h3').grown h4 (fun e=>by injection e with e;have:=hb.lt;omega)⟩,rfl,d6,hp6.an.grown h4 (fun e=>by injection e with e;omega),hp6.rd.below ⟨h4.os,h4.tape,h4.output,h4.size,fun k hk=>h4.block k (by have:=hp6.an.lt;omega) (fun e=>by injection e with e;omega)⟩,hp6.cj,hp6.cD⟩
 rw[hr] at hcl⊢;refine Seq.call (Enters.value (first:=[]) (cap:=cp) rfl rfl rfl eg) rfl rfl rfl hcl ?_;rintro e wq ⟨hf,kpq,⟨v,rfl⟩,pwq,hov⟩;refine⟨_,rfl,?_⟩;have hbel1:=bel;clear bel;have hfw:Fz h K.g w wq:=(Fz.of (hbel1.mono hh)).trans hf;have kp6:=kp.trans kpq;have k46:=kpq.an k4;have hg4:g4≠K.g:=by omega
 clear k4;have k4:=k46;have k99:=pwq.an;have bel:=Below.refl wq.heap.size wq;have loc:=Fz.refl wq.heap.size g4 wq;have e4':g4=g4:=rfl;refine bk 0 1 4 (aH ?_);refine gm 10 ?_;intro w2 hw2 zw2;replace bel:=bel.step hw2;replace k99:=k99.step hw2;replace k4:=k4.step hw2;have zbel:=bel.size;have zlt:=k4.lt;refine fN ?_;refine Zd (fun w hG=>aa.nilCheck rfl rfl) ?_;refine gw 1 Tryz.underlying219 ?_;refine fb Tryz.underlying3 k99 ?_;refine fN ?_;refine Zd (fun w hG=>aa.nilCheck rfl rfl) ?_;refine gw 0 Tryz.underlying219 ?_;refine fb Tryz.underlying215 k99 ?_;refine Zd (fun w hG=>aa.len rfl rfl Tryz.underlying215) ?_;refine Zd (fun w hG=>aa.fK rfl rfl rfl) ?_;refine Dr.nil ?_;refine bH.done (F':=[(0,_),(1,_),(4,_),(17,_)]) rfl ⟨rfl,rfl,rfl,rfl,trivial⟩ ?_;intro w3 hw3 fw3;replace bel:=bel.step hw3;replace k99:=k99.step hw3;replace k4:=k4.step hw3;have hbw:=bel;have hsw:=bel.size;have hlt4:=k4.lt;have k4q:=k46;refine Zq k4 ?_;intro w4 pw4;replace k99:=k99.put pw4 (by omega);replace k4:=pw4.an;refine bk 0 1 4 (Zt (Cd.ret ?_));intro a ha;show Leaves Tryz.prog _ a.tmps _ a.defers .returning _;rw[ha.defers,hI];refine leaves_cons (by simp) (f:=207) (args:= #[.pointer (some ⟨g4,0,none⟩)]) (by simp[invoke,hen]) ((tj g4 _).mono fun e u' w' ⟨h1,h2,h3⟩=> ?_);subst h1 h2 h3;have hgr:=pw4.grown;have hsz:=pw4.size;have hblk:∀k,k<wq.heap.size→k≠g4→w'.heap[k]? =wq.heap[k]? :=fun k hk hne=>(hgr.block k (by omega) (fun e=>hne (by injection e))).trans (hbw.block k hk);have hfe:Fz h K.g wq w':=⟨hgr.os.trans hbw.os,hgr.tape.trans hbw.tape,hgr.output.trans hbw.output,by omega,fun k hk _=>hblk k (by have:=hfw.size;omega) (by omega)⟩;have hdd:(decide ((q:Int)=(K.ws.length:Int)))=decide (q=K.ws.length):=by rw[decide_eq_decide];omega
 refine⟨_,kJ rfl a.tmps (ha.slot 4 _ rfl) Tryz.underlying4 k4,hfw.trans hfe,⟨Nat.le_trans kp6.size (by omega),fun k t cs hb h1 h2 h3'=> ?_⟩,?_,⟨0,k99,pwq.rd.below (B:=K.B) ⟨hfe.os,hfe.tape,hfe.output,hfe.size,fun k hk=>hblk k (by omega) (by omega)⟩,pwq.cj,pwq.cD⟩,hok x _ wq _ g4 hov (by omega) hltc kpq.size (by omega) hblk⟩
 ·have hb2:=kp6.bL k t cs hb h1 h2 h3'
  have:=hb.lt;have h9:=hblk k hb2.lt (by omega);unfold aE at hb2⊢;rw[h9];exact hb2
 ·show Ending.returned (.bool (decide ((q:Int)=(K.ws.length:Int))))=_
  rw[hdd]
section
variable {P:Program} {E:Operand→Option Value} {o:Oper} {w:World} {x:Operand} {T:TypeId}
end
end Go.Proofs.YtigoimhndlnhfaaGreat