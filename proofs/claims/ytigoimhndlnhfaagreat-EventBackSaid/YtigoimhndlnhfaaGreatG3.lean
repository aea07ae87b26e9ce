/-
  Texts that were joined: PanD, KS, PanE, PanF, PanG, PanH, PanI, PanJ, PanK, PanL, PanM, LexI. Conditions: what each theorem names.
-/
import Derived.Test.YtigoimhndlnhfaaGreatG2
import Derived.Recover
set_option linter.unusedSectionVars false
namespace Go.Proofs.YtigoimhndlnhfaaGreat
open Go.RowKit
theorem Ctx.Ok.zZ {K:Ctx}(hK:K.Ok){w:World}{p d:Nat}{ov:Bool}(h:PW K w p d ov):K.B≤w.heap.size:=by have:=hK.le;have:=h.aE.lt;omega
theorem nE (ws:List Wd)(s:List Nat)(p:Nat):er ws s p≠ .out:=by unfold er;split<;>simp
theorem kZ (p d:Nat):ey p d≠ .out:=by unfold ey;split<;>simp
theorem rb (ws:List Wd)(p:Nat):eV ws p≠ .out:=by unfold eV;split<;>simp
theorem jo {α:Type}(ws:List Wd)(one:Nat→Nat→Rs α)(r:List (Nat→Nat→Rs α))(first:Bool)(p d:Nat):cH ws (one::r) first p d=(if first=true then Rs.ok () p else er ws [44] p).bind fun _ p=>(one p d).bind fun x p=>(cH ws r false p d).bind fun xs p=> .ok (x::xs) p:=rfl
theorem PW.deep {K:Ctx}{w:World}{p d:Nat}(h:PW K w p d false):d≤64:=by
 rcases h.dm with h|⟨h,-⟩
 ·exact h
 ·cases h
theorem rF.mono {α:Type}{K:Ctx}{h d:Nat}{w w':World}{r:Rs α}{ok1 ok2:α→Value→World→Prop}{e:Ending}(hr:rF K h w d r ok1 e w')(hm:∀a v w',ok1 a v w'→ok2 a v w'):rF K h w d r ok2 e w':=by
 refine⟨hr.1,?_⟩
 cases r with
 |out=>exact hr.2
 |bad p o=>exact hr.2
 |ok a p=>obtain⟨v,h1,h2,h3⟩:=hr.2;exact⟨v,h1,h2,hm _ _ _ h3⟩
theorem iA {α:Type}(K:Ctx)(hK:K.Ok)(h0:Nat)(bE:List (Nat→Nat→Rs α))(fs:List (Nat × List Value))(AP:Option Addr)(cP:Nat)(M:List α→World→Prop)(p d:Nat)(w:World)(h:PW K w p d false)(hh0:h0≤w.heap.size)
  (hlen:fs.length=bE.length) (hn:bE.length≤10) (hM0:M [] w) (hMs:∀(xs:List α) (W W':World) (p d:Nat),M xs W→PW K W p d false→Fz W.heap.size K.g W W'→M xs W')
  (hMr:∀(xs:List α) (W:World) (i f:Nat) (cp:List Value),M xs W→fs[i]? =some (f,cp)→∃ad,AP=some ad∧W.cell? (ad.add i)=some (.func (.func f) #[] cp.toArray))
  (heg:∀(i f:Nat) (cp:List Value),fs[i]? =some (f,cp)→∀args w,(callFunc f args).run Tryz.prog w= .ok (.enter f args) w)
  (hone:∀(i f:Nat) (cp:List Value) (one:Nat→Nat→Rs α),fs[i]? =some (f,cp)→bE[i]? =some one→∀(xs:List α) (W:World) (p:Nat),xs.length=i→PW K W p (d+1) false→h0≤W.heap.size→M xs W→one p (d+1)≠ .out→Calls Tryz.prog f cp.toArray W (rF K h0 W (d+1) (one p (d+1)) fun x _ W'=>M (xs++[x]) W'))
  (hne:cq K.ws bE p d≠ .out):
  Calls Tryz.prog 166 #[.pointer (some ⟨K.g,0,none⟩), .slice AP fs.length cP] w (rF K h0 w d (cq K.ws bE p d) fun xs _ W'=>M xs W'):=by
 have bel:=Fz.refl h0 K.g w;have pw:=h;have e99:K.g=K.g:=rfl;have hlt:=h.aE.lt;have hle:=hK.le;obtain⟨R,hR⟩:∃R,R=cq K.ws bE p d:=⟨_,rfl⟩;rw[←hR] at hne⊢;have hRu:R=(er K.ws [40] p).bind fun _ p=>(ey p d).bind fun _ p=>(cH K.ws bE true p (d+1)).bind fun xs p=>(er K.ws [41] p).bind fun _ p=> .ok xs p:=hR;clear hR;have hsg:=lk K hK p d [40] w h (by decide);refine Zs 33 Tryz.func166 ?_;refine aw ?_;refine Zm ?_;rcases Rs.cB (nE K.ws [40] p) with ⟨p1,o1,hr1⟩|⟨u1,p1,hr1⟩
 ·rw[hr1] at hsg hRu
  refine Seq.bZ (Ze Tryz.func208) rfl hsg ?_;rintro e w6 ⟨hf,rfl,d6,hp6⟩;refine⟨_,rfl,fun a ha=>⟨ha.defers,?_⟩⟩;rw[hRu];exact⟨hf.less hh0,rfl,d6,hp6⟩
 rw[hr1] at hsg hRu;replace hRu:R=(ey p1 d).bind fun _ p=>(cH K.ws bE true p (d+1)).bind fun xs p=>(er K.ws [41] p).bind fun _ p=> .ok xs p:=hRu;refine Zc (Ze Tryz.func208) (hsg) ?_;rintro e w5 ⟨hf5,v5,rfl,pw,-⟩;refine⟨_,rfl,?_⟩;replace bel:=bel.call hf5 hh0;have hs5:=bel.size;have hM5:=hMs _ _ _ _ _ hM0 h hf5;have hen:=lA K hK p1 d w5 pw;have pwo:=pw;refine eh 0 1 (aN ?_);refine Zm ?_;rcases Rs.cB (kZ p1 d) with ⟨p2,o2,hr2⟩|⟨u2,p2,hr2⟩
 ·rw[hr2] at hen hRu
  refine Seq.bZ (Ze Tryz.func209) rfl hen ?_;rintro e w6 ⟨hf,rfl,d6,hp6⟩;refine⟨_,rfl,fun a ha=>⟨ha.defers,?_⟩⟩;rw[hRu];exact⟨bel.call hf hh0,rfl,d6,hp6⟩
 rw[hr2] at hen hRu;replace hRu:R=(cH K.ws bE true p2 (d+1)).bind fun xs p=>(er K.ws [41] p).bind fun _ p=> .ok xs p:=hRu;refine Zc (Ze Tryz.func209) (hen) ?_;rintro e w6 ⟨hf6,v6,rfl,pw,-⟩;refine⟨_,rfl,?_⟩;replace bel:=bel.call hf6 hh0;have hs6:=bel.size;have hM6:=hMs _ _ _ _ _ hM5 pwo hf6;obtain⟨R0,hR0⟩:∃R0,R0=cH K.ws bE true p2 (d+1):=⟨_,rfl⟩;rw[←hR0] at hRu;have hne0:R0≠ .out:=Rs.ew (by rw[←hRu];exact hne);refine eh 0 1 (bo (aw ?_));refine Zm ?_;refine Zv (ah.len rfl rfl Tryz.underlying225) ?_;refine Zm ?_;refine br 0 1 10 11 12 (Zt (Cd.block ?_))
 refine Cd.loop (σ:=Nat × Nat × List α) (fun s=>[(0, .pointer (some ⟨K.g,0,none⟩)),(10, .slice AP fs.length cP),(11, .int .i64 (fs.length:Int)),(12, .int .i64 (s.1:Int))])
  (fun s wr=>s.1≤bE.length∧PW K wr s.2.1 (d+1) false∧Fz h0 K.g w wr∧M s.2.2 wr∧s.2.2.length=s.1∧R0=(cH K.ws (bE.drop s.1) (decide (s.1=0)) s.2.1 (d+1)).bind fun ys p=> .ok (s.2.2++ys) p)
  (fun s=>bE.length-s.1) (0,p2,[]) ⟨Nat.zero_le _,pw,bel,hM6,rfl,by rw[hR0];show _=(cH K.ws bE true p2 (d+1)).bind _;cases cH K.ws bE true p2 (d+1)<;>rfl⟩ ⟨rfl,rfl,rfl,rfl,trivial⟩ ?_
 clear bel pw hM6 hM5 hM0 hR0;rintro⟨i,pi,xs⟩ wr ⟨hi,pw,bel,hM,hxl,hinv⟩;dsimp only at hi pw hM hxl hinv⊢;have hsr:=bel.size;refine aw ?_;refine jb ?_;refine br 0 10 11 12 13 (bo ?_);refine Cd.aF rfl (fun hc=> ?_) (fun hc=> ?_)
 ·obtain⟨one,ho⟩:∃one,bE[i]? =some one:=⟨_,List.getElem?_eq_getElem (by omega)⟩
  obtain⟨⟨f,cp⟩,hfc⟩:∃f,fs[i]? =some f:=⟨_,List.getElem?_eq_getElem (by omega)⟩;obtain⟨ad,hA,hcl⟩:=hMr xs wr i f cp hM hfc
  have hdr:bE.drop i=one::bE.drop (i+1):=by
   have hlt:=(List.getElem?_eq_some_iff.1 ho).1;rw[List.drop_eq_getElem_cons hlt];rw[List.getElem?_eq_getElem hlt] at ho;injection ho with ho
   rw[ho]
  rw[hdr] at hinv;rw[hA];refine Cd.skip (bo (Cd.block (aw ?_)));refine Zm ?_;refine Zv (ah.m5 rfl rfl rfl Tryz.underlying225 (by kernel_rfl) (j:=i) rfl (by omega)) ?_;refine Zv (ah.rV rfl rfl Tryz.underlying1 rfl hcl) ?_;refine Za ?_;refine Za ?_;refine bU 0 4 5 10 11 12 13 (Zt ?_);refine Cd.rr (σ:=Nat) (fun _=>[(0, .pointer (some ⟨K.g,0,none⟩)),(5, .func (.func f) #[] cp.toArray),(10, .slice (some ad) fs.length cP),(11, .int .i64 (fs.length:Int)),(12, .int .i64 (i:Int))]) (fun pj wj=>PW K wj pj (d+1) false∧Fz h0 K.g w wj∧M xs wj∧R0=(one pj (d+1)).bind fun x p=>(cH K.ws (bE.drop (i+1)) false p (d+1)).bind fun ys p=> .ok (xs++(x::ys)) p) ?_ ?_
  ·skip
   refine aw ?_;refine Zm ?_;refine yN ?_;refine db 0 4 5 10 11 12 13 18 (Zt ?_);refine Cd.aF rfl (fun hc=> ?_) (fun hc=> ?_)
   ·have hinv:R0=(er K.ws [44] pi).bind fun _ p=>(one p (d+1)).bind fun x p=>(cH K.ws (bE.drop (i+1)) false p (d+1)).bind fun ys p=> .ok (xs++(x::ys)) p:=by
     rw[hinv,jo,decide_eq_false (show¬i=0 by omega),if_neg (by decide)];simp only[Rs.bind_assoc];rfl
    have hsg:=lk K hK pi (d+1) [44] wr pw (by decide);have pwo:=pw;refine Zr ?_;refine Zm ?_;rcases Rs.cB (nE K.ws [44] pi) with ⟨p1,o1,hr1⟩|⟨u1,p1,hr1⟩
    ·rw[hr1] at hsg hinv
     refine Seq.bZ (Ze Tryz.func208) rfl hsg ?_;rintro e w7 ⟨hf,rfl,d6,hp6⟩;refine⟨_,rfl,fun a ha=>⟨ha.defers,?_⟩⟩;rw[hRu,hinv];exact⟨bel.call hf hh0,rfl,d6,hp6⟩
    rw[hr1] at hsg hinv;refine Zc (Ze Tryz.func208) (hsg) ?_;rintro e w7 ⟨hf7,v7,rfl,pw,-⟩;refine⟨_,rfl,?_⟩;refine db 0 4 5 10 11 12 13 18 ?_;exact ai.join p1 ⟨rfl,rfl,rfl,rfl,rfl,trivial⟩ ⟨pw,bel.call hf7 hh0,hMs _ _ _ _ _ hM pwo hf7,hinv⟩
   ·obtain rfl:i=0:=by omega
    refine Cd.skip ?_;refine ai.join pi ⟨rfl,rfl,rfl,rfl,rfl,trivial⟩ ⟨pw,bel,hM,?_⟩;rw[hinv,jo,decide_eq_true rfl,if_pos rfl];simp only[Rs.bind_assoc,Rs.fg]
  clear bel pw hM hinv;rintro pj wj ⟨pw,bel,hM,hinv⟩;have hsj:=bel.size;have hne1:one pj (d+1)≠ .out:=Rs.ew (by rw[←hinv];exact hne0);have hcall:=hone i f cp one hfc ho xs wj pj hxl pw (by omega) hM hne1;refine Zr ?_;refine Zm ?_;rcases Rs.cB hne1 with ⟨p1,o1,hr1⟩|⟨x,p1,hr1⟩
  ·rw[hr1] at hcall hinv
   refine Seq.bZ (Enters.value (first:=[]) (cap:=cp) rfl rfl rfl (heg i f cp hfc)) rfl hcall ?_;rintro e w7 ⟨hf,rfl,d6,hp6⟩;refine⟨_,rfl,fun a ha=>⟨ha.defers,?_⟩⟩;rw[hRu,hinv];exact⟨bel.trans hf,rfl,d6,hp6⟩
  rw[hr1] at hcall hinv;refine Seq.call (Enters.value (first:=[]) (cap:=cp) rfl rfl rfl (heg i f cp hfc)) rfl rfl rfl hcall ?_;rintro e w7 ⟨hf7,v7,rfl,pw,hM⟩;refine⟨_,rfl,?_⟩;refine br 0 5 10 11 12 (ai.av (jw ?_));refine eS ?_;refine Zm ?_;refine br 0 5 10 11 12 ?_;refine ai.round (i+1,p1,xs++[x]) ⟨rfl,rfl,rfl,rfl,trivial⟩ ⟨by dsimp only;omega,pw,bel.trans hf7,hM,by dsimp only;rw[List.length_append,hxl];rfl,?_⟩ (by dsimp only;omega);dsimp only;rw[hinv,decide_eq_false (show¬i+1=0 by omega),Rs.fg];simp only[List.append_assoc,List.cons_append,List.nil_append]
 ·obtain rfl:i=bE.length:=by omega
  rw[List.drop_of_length_le (Nat.le_refl _)] at hinv;have hinv:R0= .ok xs pi:=by rw[hinv];unfold cH;rw[Rs.fg,List.append_nil]
  rw[hinv] at hRu;replace hRu:R=(er K.ws [41] pi).bind fun _ p=> .ok xs p:=hRu;have hsg:=lk K hK pi (d+1) [41] wr pw (by decide);have pwo:=pw;refine Cd.exit (ai.bj (ai.aW (ai.aY (aN ?_))));refine Zm ?_;rcases Rs.cB (nE K.ws [41] pi) with ⟨p1,o1,hr1⟩|⟨u1,p1,hr1⟩
  ·rw[hr1] at hsg hRu
   refine Seq.bZ (Ze Tryz.func208) rfl hsg ?_;rintro e w7 ⟨hf,rfl,d6,hp6⟩;refine⟨_,rfl,fun a ha=>⟨ha.defers,?_⟩⟩;rw[hRu];exact⟨bel.call hf hh0,rfl,d6,hp6⟩
  rw[hr1] at hsg hRu;refine Zc (Ze Tryz.func208) (hsg) ?_;rintro e w7 ⟨hf7,v7,rfl,pw,-⟩;refine⟨_,rfl,?_⟩;replace bel:=bel.call hf7 hh0;have hM:=hMs _ _ _ _ _ hM pwo hf7;have k99:=pw.aE;have hd64:=pw.deep;have loc:=Fz.refl w7.heap.size K.g w7;refine br 0 10 11 12 13 (jw ?_);refine Zm ?_;refine Zv (ah.nilCheck rfl rfl) ?_;refine Zf 2 Tryz.underlying219 ?_;refine ZL Tryz.underlying3 k99 ?_;refine rW ?_;refine Zv (ah.nilCheck rfl rfl) ?_;refine Zf 2 Tryz.underlying219 ?_;refine Zq k99 ?_;intro w1 pw1;replace bel:=bel.put k99 pw1 e99;replace loc:=loc.put k99 pw1 e99;replace k99:=pw1.aE;refine br 0 10 11 12 13 ?_;refine ai.fq rfl (.inr rfl) ?_;rw[hRu];have hcast:((d+1:Nat):Int)-1=(d:Int):=by omega
  rw[hcast] at k99;exact⟨bel,_,rfl,⟨k99,pw.rd.below (loc.below (hK.zZ pw) hle),pw.cG, .inl (by omega)⟩,hMs _ _ _ _ _ hM pw loc⟩
variable [Inhabited (List Deferred)]
theorem ep (A B:List (Nat × Value))(t:Nat):look (A++B) t=match look A t with|some v=>some v|none=>look B t:=by
 induction A with
 |nil=>rfl
 |cons x r ih=>
  obtain⟨k,v⟩:=x;show(bif Nat.beq k t then some v else look (r++B) t)=match (bif Nat.beq k t then some v else look r t) with|some v=>some v|none=>look B t
  cases Nat.beq k t with
  |true=>rfl
  |false=>exact ih
def cI (S:Nat→Bool):Nat→List Oper→List Value→List (Nat × Value)
 |k,o::r,v::vs=>match o.dst with
  |some d=>bif S k then(d,v)::cI S (k+1) r vs else cI S (k+1) r vs
  |none=>cI S (k+1) r vs
 |_,_,_=>[]
theorem dN {S:Nat→Bool}:∀ {l:List Oper} {vs:List Value} {k t:Nat} {v:Value},look (cI S k l vs) t=some v→∃(j:Nat) (o:Oper),l[j]? =some o∧o.dst=some t∧vs[j]? =some v∧S (k+j)=true
 | [],_,_,_,_,h=>by simp[cI,look] at h
 |_::_,[],_,_,_,h=>by simp[cI,look] at h
 |o::r,v::vs,k,t,u,h=>by
  unfold cI at h
  have up:look (cI S (k+1) r vs) t=some u→∃(j:Nat) (o':Oper),(o::r)[j]? =some o'∧o'.dst=some t∧(v::vs)[j]? =some u∧S (k+j)=true:=fun h=>by
   obtain⟨j,o',h1,h2,h3,h4⟩:=dN h;exact⟨j+1,o',by simpa using h1,h2,by simpa using h3,by rw[show k+(j+1)=k+1+j from by omega];exact h4⟩
  cases hd:o.dst with
  |none=>rw[hd] at h;exact up h
  |some d=>
   rw[hd] at h;simp only at h
   cases hS:S k with
   |false=>rw[hS] at h;exact up h
   |true=>
    rw[hS,cond_true] at h;rcases bN h with ⟨rfl,rfl⟩|⟨_,h⟩
    ·exact⟨0,o,rfl,hd,rfl,hS⟩
    ·exact up h
theorem ku {S:Nat→Bool}:∀ {l:List Oper} {vs:List Value} {k j:Nat} {o:Oper} {d:Nat} {v:Value},l[j]? =some o→o.dst=some d→vs[j]? =some v→S (k+j)=true→(∀i o',l[i]? =some o'→i≠j→o'.dst≠some d)→look (cI S k l vs) d=some v
 | [],_,_,_,_,_,_,h,_,_,_,_=>by simp at h
 |_::_,[],_,_,_,_,_,_,_,h,_,_=>by simp at h
 |o0::r,v0::vs,k,0,o,d,v,h1,h2,h3,h4,h5=>by
  simp at h1 h3;subst h1 h3;unfold cI;rw[h2];simp only;rw[Nat.add_zero] at h4;rw[h4,cond_true];unfold look;rw[Nat.beq_refl];rfl
 |o0::r,v0::vs,k,j+1,o,d,v,h1,h2,h3,h4,h5=>by
  have ih:=ku (S:=S) (l:=r) (vs:=vs) (k:=k+1) (j:=j) (o:=o) (d:=d) (v:=v) (by simpa using h1) h2 (by simpa using h3) (by rw[show k+1+j=k+(j+1) from by omega];exact h4) (fun i o' hi hne=>h5 (i+1) o' (by simpa using hi) (by omega));unfold cI
  cases hd:o0.dst with
  |none=>exact ih
  |some d0=>
   simp only
   cases S k with
   |false=>exact ih
   |true=>
    have hne:d0≠d:=fun e=>h5 0 o0 rfl (by omega) (by rw[hd,e]);rw[cond_true];unfold look
    have:Nat.beq d0 d=false:=by
     cases hb:Nat.beq d0 d with
     |false=>rfl
     |true=>exact absurd (Nat.eq_of_beq_eq_true hb) hne
    rw[this,cond_false];exact ih
section
variable {P:Program} {Q:Exit→Act→World→Prop} {n:Nat} {F0:List (Nat × Value)}
def jq (l:List Oper)(F0:List (Nat × Value))(vs:List Value)(S:Nat→Bool)(o:Oper):List (Nat × Value):=cI (fun k=>bf (direct o) k) 0 l vs++(F0++cI S 0 l vs)
def pQ {σT:Type}(l:List Oper)(n:Nat)(F0:List (Nat × Value))(vs:σT→List Value)(X:σT→(Nat→Bool)→World→Prop)(S:Nat→Bool)(k:Nat)(a:Act)(w:World):Prop:=
 ∃σ,Fr n F0 a∧(∀(j:Nat) (o:Oper) (d:Nat) (v:Value),l[j]? =some o→o.dst=some d→fV S k j=true→(vs σ)[j]? =some v→a.tmps[d]? =some v)∧X σ (fV S k) w
def zf (l:List Oper)(S:Nat→Bool):Prop:=∀(i:Nat) (o:Oper),l[i]? =some o→S i=true→∀x∈direct o,S x=true
def Aa {σT:Type}(P:Program)(ops:Array Oper)(Q:Exit→Act→World→Prop)(l:List Oper)(n:Nat)(F0:List (Nat × Value))(vs:σT→List Value)(X:σT→(Nat→Bool)→World→Prop)(k:Nat)(o:Oper):Prop:=
 ∀(σ:σT) (S:Nat→Bool) (w:World),S k=false→(∀x∈direct o,S x=true)→zf l S→X σ S w→Seq P ops (Exit.then (pQ l n F0 vs X S k) Q) [o] n (jq l F0 (vs σ) S o) w
theorem vh {o:Oper}{a:Act}{w:World}{K K':Act→World→Prop}(h:o.wp P a w K (Exit.then K' Q)):o.wp P a w K Q:=by
 unfold Oper.wp at *;unfold Oper.upon at *;split at h<;>exact h
theorem fN {l:List Oper}{keys:List Nat}(hchk:fC n keys 0 [] l=true){j:Nat}{o:Oper}{d:Nat}(h:l[j]? =some o)(hd:o.dst=some d):d<n∧d∉keys∧∀i o',l[i]? =some o'→i≠j→o'.dst≠some d:=by
 obtain⟨-,h2⟩:=ee hchk j o h;obtain⟨a1,-,a3,a4⟩:=h2 d hd;exact⟨a1,a3,a4⟩
theorem ai.aO {σT:Type}{l:List Oper}{vs:σT→List Value}{X:σT→(Nat→Bool)→World→Prop}{σ σ':σT}{S:Nat→Bool}{k d:Nat}{o:Oper}{u:Value}{w':World}(hchk:fC n (gO F0) 0 [] l=true)(ho:l[k]? =some o)(hd:o.dst=some d)(hpre:∀x∈direct o,S x=true)(hu:(vs σ')[k]? =some u)(hj:∀j,S j=true→(vs σ')[j]? =(vs σ)[j]?)(hX:X σ' (fV S k) w'):
  ai (Exit.then (pQ l n F0 vs X S k) Q) .normal n ((d,u)::jq l F0 (vs σ) S o) w':=by
 intro a ha;obtain⟨b1,b2,b3⟩:=fN hchk ho hd
 have hF:∀t v,look F0 t=some v→a.tmps[t]? =some v:=fun t v ht=>by
  have hk:=fI ht
  have hnone:∀S',look (cI S' 0 l (vs σ)) t=none:=fun S'=>by
   cases hl:look (cI S' 0 l (vs σ)) t with
   |none=>rfl
   |some x=>
    obtain⟨j,o',h1,h2,-,-⟩:=dN hl;exact absurd hk (fN hchk h1 h2).2.1
  refine ha.slot t v ?_;unfold look
  cases hb:Nat.beq d t with
  |true=>rw[Nat.eq_of_beq_eq_true hb] at b2;exact absurd hk b2
  |false=>
   rw[cond_false];unfold jq;rw[ep,hnone];simp only;rw[ep,ht]
 refine⟨σ',⟨ha.size,ha.defers,hF⟩,fun j o' d' v h1 h2 h3 h4=> ?_,hX⟩
 by_cases hjk:j=k
 ·subst hjk
  rw[ho] at h1;injection h1 with h1
  subst h1;rw[hd] at h2;injection h2 with h2
  subst h2;rw[hu] at h4;injection h4 with h4
  subst h4;exact ha.slot d u (by unfold look;rw[Nat.beq_refl];rfl)
 ·have hS:S j=true:=by unfold fV at h3;rwa [if_neg hjk] at h3
  have hv:(vs σ)[j]? =some v:=by rw[←hj j hS];exact h4
  obtain⟨c1,c2,c3⟩:=fN hchk h1 h2;refine ha.slot d' v ?_;have hne:d≠d':=fun e=>b3 j o' h1 hjk (by rw[h2,e]);unfold look
  have hb:Nat.beq d d'=false:=by
   cases hb:Nat.beq d d' with
   |false=>rfl
   |true=>exact absurd (Nat.eq_of_beq_eq_true hb) hne
  rw[hb,cond_false];unfold jq;rw[ep];have h0:look (cI S 0 l (vs σ)) d'=some v:=ku h1 h2 hv (by rw[Nat.zero_add];exact hS) c3
  cases hl:look (cI (fun k=>bf (direct o) k) 0 l (vs σ)) d' with
  |none=>
   simp only;rw[ep]
   cases hf:look F0 d' with
   |none=>simp only;exact h0
   |some y=>exact absurd (fI hf) c2
  |some x=>
   obtain⟨i,oi,e1,e2,e3,-⟩:=dN hl
   have:i=j:=by
    by_cases hij:i=j
    ·exact hij
    ·exact absurd e2 (c3 i oi e1 hij)
   subst this;rw[hv] at e3;exact e3.symm
theorem ai.jx {σT:Type}{l:List Oper}{vs:σT→List Value}{X:σT→(Nat→Bool)→World→Prop}{σ σ':σT}{S:Nat→Bool}{k:Nat}{o:Oper}{w':World}(hchk:fC n (gO F0) 0 [] l=true)(ho:l[k]? =some o)(hd:o.dst=none)(hj:∀j,S j=true→(vs σ')[j]? =(vs σ)[j]?)(hX:X σ' (fV S k) w'):
  ai (Exit.then (pQ l n F0 vs X S k) Q) .normal n (jq l F0 (vs σ) S o) w':=by
 intro a ha
 have hF:∀t v,look F0 t=some v→a.tmps[t]? =some v:=fun t v ht=>by
  have hk:=fI ht
  have hnone:∀S',look (cI S' 0 l (vs σ)) t=none:=fun S'=>by
   cases hl:look (cI S' 0 l (vs σ)) t with
   |none=>rfl
   |some x=>
    obtain⟨j,o',h1,h2,-,-⟩:=dN hl;exact absurd hk (fN hchk h1 h2).2.1
  refine ha.slot t v ?_;unfold jq;rw[ep,hnone];simp only;rw[ep,ht]
 refine⟨σ',⟨ha.size,ha.defers,hF⟩,fun j o' d' v h1 h2 h3 h4=> ?_,hX⟩
 have hjk:j≠k:=fun e=>by
  subst e;rw[ho] at h1;injection h1 with h1
  subst h1;rw[hd] at h2
  cases h2
 have hS:S j=true:=by unfold fV at h3;rwa [if_neg hjk] at h3
 have hv:(vs σ)[j]? =some v:=by rw[←hj j hS];exact h4
 obtain⟨c1,c2,c3⟩:=fN hchk h1 h2;refine ha.slot d' v ?_;unfold jq;rw[ep];have h0:look (cI S 0 l (vs σ)) d'=some v:=ku h1 h2 hv (by rw[Nat.zero_add];exact hS) c3
 cases hl:look (cI (fun k=>bf (direct o) k) 0 l (vs σ)) d' with
 |none=>
  simp only;rw[ep]
  cases hf:look F0 d' with
  |none=>simp only;exact h0
  |some y=>exact absurd (fI hf) c2
 |some x=>
  obtain⟨i,oi,e1,e2,e3,-⟩:=dN hl
  have:i=j:=by
   by_cases hij:i=j
   ·exact hij
   ·exact absurd e2 (c3 i oi e1 hij)
  subst this;rw[hv] at e3;exact e3.symm
def vg:List Oper→List Value→List (Nat × Value)→List (Nat × Value)
 |o::r,v::vs,F=>match o.dst with
  |some d=>(d,v)::vg r vs F
  |none=>vg r vs F
 |_,_,F=>F
theorem oP:∀ {l:List Oper} {vs:List Value} {F:List (Nat × Value)} {t:Nat} {v:Value},look (vg l vs F) t=some v→(∃(j:Nat) (o:Oper),l[j]? =some o∧o.dst=some t∧vs[j]? =some v)∨look F t=some v
 | [],_,_,_,_,h=> .inr h
 |_::_,[],_,_,_,h=> .inr h
 |o::r,u::vs,F,t,v,h=>by
  have up:look (vg r vs F) t=some v→(∃(j:Nat) (o':Oper),(o::r)[j]? =some o'∧o'.dst=some t∧(u::vs)[j]? =some v)∨look F t=some v:=fun h=>by
   rcases oP h with ⟨j,o',h1,h2,h3⟩|h
   ·exact .inl ⟨j+1,o',by simpa using h1,h2,by simpa using h3⟩
   ·exact .inr h
  unfold vg at h
  cases hd:o.dst with
  |none=>rw[hd] at h;exact up h
  |some d=>
   rw[hd] at h;simp only at h;rcases bN h with ⟨rfl,rfl⟩|⟨_,h⟩
   ·exact .inl ⟨0,o,rfl,hd,rfl⟩
   ·exact up h
theorem mZ (m i:Nat):(Array.replicate m false).getD i false=false:=by by_cases h:i<m<;>simp[h]
def tT (ds:List Nat):Nat→Bool
 |0=>true
 |k+1=>bf ds k&&tT ds k
theorem nC {ds:List Nat}:∀ {m:Nat},tT ds m=true→∀i,i<m→i∈ds
 |0,_,i,hi=>by omega
 |m+1,h,i,hi=>by
  unfold tT at h;simp only[Bool.and_eq_true] at h;rcases Nat.lt_or_ge i m with h1|h1
  ·exact nC h.2 i h1
  ·obtain rfl:i=m:=by omega
   exact aI h.1
def pL (m:Nat):List Oper→Bool
 | []=>true
 |o::r=>tT (direct o) m&&iQ m (direct o)&&kK (m+1) r
theorem Cd.lV {σT:Type}(m:Nat){id:Nat}{l:List Oper}{w:World}(hm:P.follows .mixedOrders=true)(hchk:fC n (gO F0) 0 [] (l.take m)=true)(hrest:pL (l.take m).length (l.drop m)=true)(vs:σT→List Value)(X:σT→(Nat→Bool)→World→Prop)(σ0:σT)
  (h0:∀w0,Below w.heap.size w w0→w0.heap.size=w.heap.size→X σ0 (fun _=>false) w0)
  (hstep:∀(k:Nat) (o:Oper),(l.take m)[k]? =some o→Aa P l.toArray Q (l.take m) n F0 vs X k o)
  (hfin:∀(σ:σT) (S:Nat→Bool) (w:World),(∀i,i<(l.take m).length→S i=true)→X σ S w→Seq P l.toArray Q (l.drop m) n (vg (l.take m) (vs σ) F0) w):Cd P (.region id l.toArray true) Q n F0 w:=by
 have hops:l.toArray=(l.take m++l.drop m).toArray:=by rw[List.take_append_drop]
 revert hchk hrest hstep hfin
 generalize l.take m=init at *
 generalize l.drop m=tail at *
 intro hchk hrest hstep hfin
 generalize l.toArray=ops at *
 intro a ha;refine wp_region_any hm ?_;have hw0:=h0 {w with drawn:=w.drawn+1} ⟨rfl,rfl,rfl,Nat.le_refl _,fun _ _=>rfl⟩ rfl;have c1:=ee hchk;have hsz:ops.size=init.length+tail.length:=by rw[hops];simp
 have hat:∀i,i<init.length→ops[i]? =init[i]? :=fun i hi=>by rw[hops];simp[List.getElem?_append_left hi]
 have hat2:∀r,ops[init.length+r]? =tail[r]? :=fun r=>by rw[hops];simp[List.getElem?_append_right]
 have t0:∀o,tail[0]? =some o→(∀x∈direct o,x<init.length)∧∀i,i<init.length→i∈direct o:=by
  intro o ho
  cases tail with
  |nil=>simp at ho
  |cons o1 r=>
   obtain rfl:o1=o:=by simpa using ho
   unfold pL at hrest;simp only[Bool.and_eq_true] at hrest;exact⟨cW hrest.1.2,nC hrest.1.1⟩
 have ts:∀i o,tail[i+1]? =some o→(∀x∈direct o,x<init.length+1+i)∧init.length+1+i-1∈direct o:=by
  intro i o ho
  cases tail with
  |nil=>simp at ho
  |cons o1 r=>
   unfold pL at hrest;simp only[Bool.and_eq_true] at hrest;exact fG hrest.2 i o (by simpa using ho)
 have key:∀(fuel:Nat) (listed:Array Bool) (σ:σT) (a:Act) (w:World),listed.size=ops.size→zf init (fun j=>listed.getD j false)→(∀i,init.length≤i→i<ops.size→listed.getD i true=false)→Fr n F0 a→(∀(j:Nat) (o:Oper) (d:Nat) (v:Value),init[j]? =some o→o.dst=some d→listed.getD j false=true→(vs σ)[j]? =some v→a.tmps[d]? =some v)→X σ (fun j=>listed.getD j false) w→left listed ops.size≤fuel→wpAny P .any ops Q fuel listed a w:=by
  have fin:∀(fuel:Nat) (listed:Array Bool) (σ:σT) (a:Act) (w:World),listed.size=ops.size→(∀i,i<init.length→listed.getD i true=true)→(∀i,init.length≤i→i<ops.size→listed.getD i true=false)→Fr n F0 a→(∀(j:Nat) (o:Oper) (d:Nat) (v:Value),init[j]? =some o→o.dst=some d→listed.getD j false=true→(vs σ)[j]? =some v→a.tmps[d]? =some v)→X σ (fun j=>listed.getD j false) w→left listed ops.size≤fuel→wpAny P .any ops Q fuel listed a w:=by
   intro fuel listed σ a w hl hall hts hF hD hX hf
   have hb:∀i,i<init.length→listed.getD i false=true:=fun i hi=>by
    have h1:=hall i hi;have h2:i<listed.size:=by omega
    simp[h2] at h1⊢;exact h1
   have hleft:∀k,k≤ops.size→left listed k=k-init.length:=by
    intro k
    induction k with
    |zero=>intro _;show 0=0-init.length;omega
    |succ k ihk=>
     intro hk;unfold left;rw[ihk (by omega)];rcases Nat.lt_or_ge k init.length with h1|h1
     ·rw[if_pos (hall k h1)];omega
     ·rw[if_neg (by rw[hts k h1 (by omega)];simp)];omega
   refine nM hops (fun o ho=>(t0 o ho).1) ts fuel 0 listed a w hl (Nat.zero_le _) (fun i hi=>hall i (by omega)) (fun i hi hi2=>hts i (by omega) hi2) (by have:=hleft ops.size (Nat.le_refl _);omega) ?_;rw[List.drop_zero];refine hfin σ _ w hb hX a ⟨hF.size,hF.defers,fun t v ht=> ?_⟩;rcases oP ht with ⟨j,o,h1,h2,h3⟩|h
   ·exact hD j o t v h1 h2 (hb j (List.getElem?_eq_some_iff.1 h1).1) h3
   ·exact hF.slot t v h
  intro fuel
  induction fuel with
  |zero=>
   intro listed σ a w hl hdc hts hF hD hX hf;have hall:=jG (Nat.le_zero.1 hf);exact fin 0 listed σ a w hl (fun i hi=>hall i (by omega)) hts hF hD hX hf
  |succ fuel ih=>
   intro listed σ a w hl hdc hts hF hD hX hf
   by_cases hdone:∀i,i<init.length→listed.getD i true=true
   ·exact fin _ listed σ a w hl hdone hts hF hD hX hf
   have hex:∃i,i∈Region.ready .any ops listed:=by
    refine Classical.byContradiction fun hno=>hdone ?_
    have this:∀i,(∀j,j<i→j<init.length→listed.getD j true=true)→i<init.length→listed.getD i true=true:=fun i hlt hi=>by
     cases hb:listed.getD i true with
     |true=>rfl
     |false=>
      exfalso;refine hno ⟨i,cd.2 ⟨hb,init[i],by rw[hat i hi,List.getElem?_eq_getElem hi],fun x hx=> ?_⟩⟩;have hxi:=(c1 i _ (List.getElem?_eq_getElem hi)).1 x hx;have h1:=hlt x (by omega) (by omega);have h2:x<listed.size:=by omega
      simp[h2] at h1⊢;exact h1
    have all:∀m i,i≤m→i<init.length→listed.getD i true=true:=by
     intro m
     induction m using Nat.strongRecOn with
     |_ m ihm=>intro i him hi;exact this i (fun j hj hjl=>ihm j (by omega) j (Nat.le_refl _) hjl) hi
    exact fun i hi=>all i i (Nat.le_refl _) hi
   refine⟨fun hnil=>(by obtain⟨i,hi⟩:=hex;rw[hnil] at hi;cases hi),fun i hi=> ?_⟩
   ·obtain⟨g1,o,ho,g2⟩:=cd.1 hi
    have hio:=(Array.getElem?_eq_some_iff.1 ho).1
    have hil:i<init.length:=by
     rcases Nat.lt_or_ge i init.length with h|h
     ·exact h
     ·exfalso
      obtain⟨q,rfl⟩:∃q,i=init.length+q:=⟨i-init.length,by omega⟩;rw[hat2] at ho
      cases q with
      |zero=>
       refine hdone fun j hj=> ?_;have h1:=g2 j ((t0 o ho).2 j hj);have h2:j<listed.size:=by omega
       simp[h2] at h1⊢;exact h1
      |succ q=>
       have h1:=g2 _ (ts q o ho).2;have h2:=hts (init.length+1+q-1) (by omega) (by omega);rw[getD_both h2] at h1
       cases h1
    rw[hat i hil] at ho;have hSi:listed.getD i false=false:=getD_both g1
    have hst:=hstep i o ho σ (fun j=>listed.getD j false) w hSi g2 hdc hX a ⟨hF.size,hF.defers,fun t v ht=>by
     unfold jq at ht;rw[ep] at ht
     cases h1:look (cI (fun k=>bf (direct o) k) 0 init (vs σ)) t with
     |some x=>
      rw[h1] at ht;injection ht with ht
      subst ht;obtain⟨j,oj,e1,e2,e3,e4⟩:=dN h1;rw[Nat.zero_add] at e4;exact hD j oj t x e1 e2 (g2 j (aI e4)) e3
     |none=>
      rw[h1] at ht;simp only at ht;rw[ep] at ht
      cases h2:look F0 t with
      |some x=>
       rw[h2] at ht;injection ht with ht
       subst ht;exact hF.slot t x h2
      |none=>
       rw[h2] at ht;simp only at ht;obtain⟨j,oj,e1,e2,e3,e4⟩:=dN ht;rw[Nat.zero_add] at e4;exact hD j oj t v e1 e2 e4 e3⟩
    have hupd:(fun j=>(listed.setIfInBounds i true).getD j false)=fV (fun j=>listed.getD j false) i:=by
     funext j
     unfold fV
     by_cases e:i=j
     ·subst e;simp[fe false (show i<listed.size by omega)]
     ·rw[getD_set_ne false e,if_neg (fun h=>e h.symm)]
    have next:∀a' w',pQ init n F0 vs X (fun j=>listed.getD j false) i a' w'→wpAny P .any ops Q fuel (listed.setIfInBounds i true) a' w':=by
     rintro a' w' ⟨σ',h1,h2,h3⟩;rw[←hupd] at h3;refine ih _ σ' a' w' (by simp[hl]) ?_ (fun j h4 h5=>by rw[getD_set_ne true (by omega)];exact hts j h4 h5) h1 (fun j oj d v e1 e2 e3 e4=>h2 j oj d v e1 e2 (by rw[←hupd];exact e3) e4) h3 ?_
     ·intro i2 o2 e1 e2 x hx
      simp only at e2⊢
      by_cases e:i=i2
      ·subst e
       rw[ho] at e1;injection e1 with e1
       subst e1;exact getD_set_true (g2 x hx)
      ·rw[getD_set_ne false e] at e2
       exact getD_set_true (hdc i2 o2 e1 e2 x hx)
     ·have:=kV (listed:=listed) (i:=i) (by omega) g1 ops.size
      rw[if_pos hio] at this;omega
    unfold wpOp;rw[hat i hil,ho];simp only;unfold wpList at hst
    by_cases hwant:Region.wanted o (yielded ops a.tmps)=true
    ·rw[if_pos hwant] at hst⊢
     rcases hst with hst|⟨h1,h2⟩
     ·exact .inl (Oper.wp_mono next (vh (Oper.wp_mono (fun a' w' h=>h) hst)))
     ·exact .inr ⟨h1,h2⟩
    ·rw[if_neg hwant] at hst⊢
     exact next _ _ hst
 refine key ops.size _ σ0 a _ (by simp) (fun i o _ h=> ?_) (fun i _ h=>by simp[h]) ha (fun j o d v _ _ h _=> ?_) ?_ ?_
 ·simp only[mZ] at h;cases h
 ·rw[mZ] at h;cases h
 ·have hrep:(fun j=>(Array.replicate ops.size false).getD j false)=fun _=>false:=funext fun i=>mZ _ i
  rw[hrep];exact hw0
 ·have:∀k,left (Array.replicate ops.size false) k≤k:=by
   intro k
   induction k with
   |zero=>exact Nat.le_refl _
   |succ k ih=>unfold left;split<;>omega
  exact this _
end
end Go.Proofs.YtigoimhndlnhfaaGreat
namespace Go.Proofs.YtigoimhndlnhfaaGreat
open Go.RowKit
structure Kp (w w':World):Prop where
 size:w.heap.size≤w'.heap.size
 dD:∀k t cs,aQ w k t cs→t≠71→t≠105→t≠219→aQ w' k t cs
section
variable {w w' w'':World}
theorem Kp.refl (w:World):Kp w w:=⟨Nat.le_refl _,fun _ _ _ h _ _ _=>h⟩
theorem Kp.trans (a:Kp w w')(b:Kp w' w''):Kp w w'':=⟨Nat.le_trans a.size b.size,fun k t cs h h1 h2 h3=>b.dD k t cs (a.dD k t cs h h1 h2 h3) h1 h2 h3⟩
theorem Kp.step (a:Kp w w')(b:Below w'.heap.size w' w''):Kp w w'':=a.trans ⟨b.size,fun _ _ _ h _ _ _=>h.step b⟩
theorem Kp.fz {g:Nat}{cs:Array Value}(a:Kp w w')(k:aQ w' g 219 cs)(b:Fz w'.heap.size g w' w''):Kp w w'':=a.trans ⟨b.size,fun i t cs h _ _ h3=>h.fz b fun e=>h3 (by
 subst e;have h1:w'.heap[i]? =_:=h;have h2:w'.heap[i]? =_:=k;rw[h1] at h2;injection h2 with h2
 injection h2)⟩
theorem Kp.put {g:Nat}{E:Prop}{T:TypeId}{cur cs:Array Value}(a:Kp w w')(k:aQ w' g T cur)(p:kW w' w'' g T cs)(_e:E)(hT:(T=71∨T=105∨T=219)∨w.heap.size≤g:=by first|exact .inl (by decide)|exact .inr (by omega)):Kp w w'':=by
 refine⟨Nat.le_trans a.size (Nat.le_of_eq p.size.symm),fun i t cs h h1 h2 h3=> ?_⟩;rcases hT with hT|hg
 ·exact(a.dD i t cs h h1 h2 h3).put p ((a.dD i t cs h h1 h2 h3).ne k (by rcases hT with rfl|rfl|rfl<;>assumption))
 ·exact(a.dD i t cs h h1 h2 h3).put p (by have:=h.lt;omega)
theorem Kp.app {B n size:Nat}{e:TypeId}{v:Value}{xs:List Value}(a:Kp w w')(o:Own w' B e size v n xs)(ha:App w' w'' B v)(hT:e=71∨e=105:=by decide):Kp w w'':=
 a.trans ⟨ha.below.size,fun i t cs h h1 h2 _=>h.grown ha.grown (fun e'=>eE o.row h (by rcases hT with rfl|rfl<;>exact fun e=>by first|exact h1 e.symm|exact h2 e.symm) e'.symm)⟩
end
theorem Kp.aE {w w':World}{k:Nat}{t:TypeId}{cs:Array Value}(a:Kp w w')(h:aQ w k t cs)(h1:t≠71:=by decide)(h2:t≠105:=by decide)(h3:t≠219:=by decide):aQ w' k t cs:=a.dD k t cs h h1 h2 h3
structure dA (W:World)(h gt:Nat)(es:List Ex)(ts:List Tm)(evs tvs:List Value)(vE vT:Value)(S:Nat→Prop):Prop where
 qQ:evs.length=es.length
 ti:tvs.length=ts.length
 fE:Own W h 105 4 vE es.length (aU evs)
 iW:Own W h 71 4 vT ts.length (aU tvs)
 xF:∀(i:Nat) (e:Ex) (v:Value),es[i]? =some e→evs[i]? =some v→dH W S e v
 xY:∀(i:Nat) (t:Tm) (v:Value),ts[i]? =some t→tvs[i]? =some v→dW W S t v
 vv:∀b,S b→h≤b∧b<W.heap.size∧b≠gt∧vE.ownBlock≠some b∧vT.ownBlock≠some b
 wg:vE.ownBlock≠some gt
 yw:vT.ownBlock≠some gt
section
variable {W W':World} {h gt g:Nat} {es:List Ex} {ts:List Tm} {evs tvs:List Value} {vE vT:Value} {S:Nat→Prop}
theorem Own.iG {B n size:Nat}{e:TypeId}{v:Value}{xs:List Value}(o:Own W B e size v n xs)(hs:W.heap.size≤W'.heap.size)(hb:∀b,v.ownBlock=some b→W'.heap[b]? =W.heap[b]?):Own W' B e size v n xs:=by
 obtain⟨h1,⟨h2,h3⟩|⟨g,cap,cur,rfl,e2,e3,e4⟩⟩:=o.row
 ·exact⟨h1, .inl ⟨h2,h3⟩⟩
 ·exact⟨h1, .inr ⟨g,cap,cur,rfl,e2,(hb g rfl).trans e3,e4⟩⟩
theorem dA.dD (a:dA W h gt es ts evs tvs vE vT S)(hs:W.heap.size≤W'.heap.size)(hb:∀b,h≤b→b<W.heap.size→b≠gt→W'.heap[b]? =W.heap[b]?):dA W' h gt es ts evs tvs vE vT S:=by
 have hS:∀p:Addr,S p.block→W'.cell? p=W.cell? p:=fun p hp=>by
  obtain⟨b1,b2,b3,-,-⟩:=a.vv _ hp;exact World.cell?_of_block (hb _ b1 b2 b3)
 refine⟨a.qQ,a.ti,a.fE.iG hs fun b e=> ?_,a.iW.iG hs fun b e=> ?_,fun i e v h1 h2=>(a.xF i e v h1 h2).mono (fun _ h=>h) hS,fun i e v h1 h2=>(a.xY i e v h1 h2).mono (fun _ h=>h) hS,fun b hb=> ?_,a.wg,a.yw⟩
 ·obtain⟨h1,h2⟩:=a.fE.bO b e
  exact hb b h1 h2 fun e'=>a.wg (by rw[e,e'])
 ·obtain⟨h1,h2⟩:=a.iW.bO b e
  exact hb b h1 h2 fun e'=>a.yw (by rw[e,e'])
 ·obtain⟨b1,b2,b3,b4,b5⟩:=a.vv b hb
  exact⟨b1,by omega,b3,b4,b5⟩
theorem dA.fz (a:dA W h gt es ts evs tvs vE vT S)(f:Fz W.heap.size g W W')(hg:g<h):dA W' h gt es ts evs tvs vE vT S:=a.dD f.size fun b h1 h2 _=>f.block b h2 (by omega)
theorem dA.step (a:dA W h gt es ts evs tvs vE vT S)(f:Below W.heap.size W W'):dA W' h gt es ts evs tvs vE vT S:=a.dD f.size fun b _ h2 _=>f.block b h2
theorem dA.put {T:TypeId}{cur cs:Array Value}{B:Nat}(a:dA W h gt es ts evs tvs vE vT S)(_k:aQ W gt T cur)(p:kW W W' gt T cs)(_e:B≤gt):dA W' h gt es ts evs tvs vE vT S:=a.dD (Nat.le_of_eq p.size.symm) fun b _ h2 h3=>p.grown.block b h2 fun e=>h3 (by injection e)
end
theorem Own.mu {w:World}{B s n:Nat}{e:TypeId}{v:Value}{xs ys:List Value}(o:Own w B e s v (n+1) (xs++ys))(hl:xs.length=n*s):∃g cap cur,v= .slice (some ⟨g,0,none⟩) (n+1) cap∧B≤g∧g<w.heap.size∧aQ w g e cur∧n*s+s≤cur.size∧
  ∀(w':World) (cs:Array Value),cs.size=s→kW w w' g e (cur.toList.take (n*s)++(cs.toList++cur.toList.drop (n*s+cs.size))).toArray→Own w' B e s v (n+1) (xs++cs.toList):=by
 obtain⟨h1,⟨-,h3⟩|⟨g,cap,cur,rfl,e2,e3,e4,e5,e6,e7⟩⟩:=o.row
 ·omega
 ·have hk:aQ w g e cur:=e3
  have hm:(n+1)*s≤cap*s:=Nat.mul_le_mul_right s e4;have hns:(n+1)*s=n*s+s:=Nat.succ_mul n s;refine⟨g,cap,cur,rfl,e2,hk.lt,hk,by omega,fun w' cs hcs p=>⟨?_, .inr ⟨g,cap,_,rfl,e2,p.aE,e4,e5,?_,?_⟩⟩⟩
  ·have:cs.toList.length=s:=by simpa using hcs
   rw[List.length_append,hl,this,hns]
  ·have h9:cur.toList.length=cap*s:=by simpa using e6
   have:cs.toList.length=s:=by simpa using hcs
   simp only[List.size_toArray,List.length_append,List.length_take,List.length_drop,this,h9,hcs];omega
  ·have h9:cur.toList.length=cap*s:=by simpa using e6
   have h10:cs.toList.length=s:=by simpa using hcs
   have htk:cur.toList.take (n*s)=xs:=by
    have:=congrArg (List.take (n*s)) e7;rw[List.take_take,Nat.min_eq_left (by omega),←hl,List.take_left' rfl] at this;rw[←hl];exact this
   rw[htk,←List.append_assoc,hns,List.take_left' (by rw[List.length_append,hl,h10])]
theorem Own.two {W:World}{B B' n m s s':Nat}{e e':TypeId}{v u:Value}{xs ys:List Value}(o:Own W B e s v n xs)(o':Own W B' e' s' u m ys)(hne:e≠e'):AM v u:=fun b h1 h2=>by
 obtain⟨-,⟨rfl,-⟩|⟨g,cap,cur,rfl,-,e3,-⟩⟩:=o.row
 ·cases h1
 obtain⟨-,⟨rfl,-⟩|⟨g',cap',cur',rfl,-,e3',-⟩⟩:=o'.row
 ·cases h2
 injection h1 with h1
 injection h2 with h2
 have h1:g=b:=h1;have h2:g'=b:=h2;subst h1;subst h2;rw[e3] at e3';injection e3' with e3'
 injection e3' with _ e3'
 exact hne e3'
theorem dA.zi {W W':World}{h gt:Nat}{es:List Ex}{ts:List Tm}{evs tvs:List Value}{vE vT vE':Value}{S S':Nat→Prop}(a:dA W h gt es ts evs tvs vE vT S){x:Ex}{v:Value}(hr:dH W S' x v)(hS':∀b,S' b→h≤b∧b<W.heap.size∧b≠gt∧vE.ownBlock≠some b∧vT.ownBlock≠some b)
  (o:Own W' h 105 4 vE' (es.length+1) (aU evs++v.cells.toList)) (hs:W.heap.size≤W'.heap.size) (hb:∀b,h≤b→b<W.heap.size→b≠gt→vE.ownBlock≠some b→W'.heap[b]? =W.heap[b]?) (hv':vE'.ownBlock=vE.ownBlock∨∃N,vE'.ownBlock=some N∧W.heap.size≤N) (hgt:gt<W.heap.size):
  dA W' h gt (es++[x]) ts (evs++[v]) tvs vE' vT (fun b=>S b∨S' b):=by
 have htwo:AM vE vT:=a.fE.two a.iW (by decide);have hS:∀b,(S b∨S' b)→h≤b∧b<W.heap.size∧b≠gt∧vE.ownBlock≠some b∧vT.ownBlock≠some b:=fun b hb=>hb.elim (a.vv b) (hS' b)
 have hc:∀p:Addr,(S p.block∨S' p.block)→W'.cell? p=W.cell? p:=fun p hp=>by
  obtain⟨b1,b2,b3,b4,-⟩:=hS _ hp;exact World.cell?_of_block (hb _ b1 b2 b3 b4)
 have hneE:∀b,b<W.heap.size→vE.ownBlock≠some b→vE'.ownBlock≠some b:=fun b h1 h2 h3=>by
  rcases hv' with e|⟨N,e,hN⟩
  ·exact h2 (by rw[←e,h3])
  ·rw[e] at h3;injection h3 with h3;omega
 refine⟨by simp[a.qQ],a.ti,?_,a.iW.iG hs fun b e=> ?_,fun i e u h1 h2=> ?_,fun i t u h1 h2=>(a.xY i t u h1 h2).mono (fun _ h=> .inl h) (fun p hp=>hc p (.inl hp)),fun b hb'=> ?_,hneE gt hgt a.wg,a.yw⟩
 ·have hf:aU (evs++[v])=aU evs++v.cells.toList:=by rw[kN];simp[aU]
  rw[hf,List.length_append];exact o
 ·obtain⟨h1,h2⟩:=a.iW.bO b e
  exact hb b h1 h2 (fun e'=>a.yw (by rw[e,e'])) (fun e'=>htwo b e' e)
 ·rcases Nat.lt_or_ge i es.length with hi|hi
  ·rw[List.getElem?_append_left hi] at h1
   rw[List.getElem?_append_left (by rw[a.qQ];exact hi)] at h2;exact(a.xF i e u h1 h2).mono (fun _ h=> .inl h) (fun p hp=>hc p (.inl hp))
  ·rw[List.getElem?_append_right hi] at h1
   rw[List.getElem?_append_right (by rw[a.qQ];exact hi),a.qQ] at h2
   have h0:i-es.length=0:=by
    have:=(List.getElem?_eq_some_iff.1 h1).1;simp at this;exact this
   rw[h0] at h1 h2;injection h1 with h1
   injection h2 with h2
   subst h1 h2;exact hr.mono (fun _ h=> .inr h) (fun p hp=>hc p (.inr hp))
 ·obtain⟨b1,b2,b3,b4,b5⟩:=hS b hb'
  exact⟨b1,by omega,b3,hneE b b2 b4,b5⟩
theorem dA.As {W W':World}{h gt:Nat}{es:List Ex}{ts:List Tm}{evs tvs:List Value}{vE vT vT':Value}{S S':Nat→Prop}(a:dA W h gt es ts evs tvs vE vT S){x:Tm}{v:Value}(hr:dW W S' x v)(hS':∀b,S' b→h≤b∧b<W.heap.size∧b≠gt∧vE.ownBlock≠some b∧vT.ownBlock≠some b)
  (o:Own W' h 71 4 vT' (ts.length+1) (aU tvs++v.cells.toList)) (hs:W.heap.size≤W'.heap.size) (hb:∀b,h≤b→b<W.heap.size→b≠gt→vT.ownBlock≠some b→W'.heap[b]? =W.heap[b]?) (hv':vT'.ownBlock=vT.ownBlock∨∃N,vT'.ownBlock=some N∧W.heap.size≤N) (hgt:gt<W.heap.size):
  dA W' h gt es (ts++[x]) evs (tvs++[v]) vE vT' (fun b=>S b∨S' b):=by
 have htwo:AM vE vT:=a.fE.two a.iW (by decide);have hS:∀b,(S b∨S' b)→h≤b∧b<W.heap.size∧b≠gt∧vE.ownBlock≠some b∧vT.ownBlock≠some b:=fun b hb=>hb.elim (a.vv b) (hS' b)
 have hc:∀p:Addr,(S p.block∨S' p.block)→W'.cell? p=W.cell? p:=fun p hp=>by
  obtain⟨b1,b2,b3,-,b4⟩:=hS _ hp;exact World.cell?_of_block (hb _ b1 b2 b3 b4)
 have hneT:∀b,b<W.heap.size→vT.ownBlock≠some b→vT'.ownBlock≠some b:=fun b h1 h2 h3=>by
  rcases hv' with e|⟨N,e,hN⟩
  ·exact h2 (by rw[←e,h3])
  ·rw[e] at h3;injection h3 with h3;omega
 refine⟨a.qQ,by simp[a.ti],a.fE.iG hs fun b e=> ?_,?_,fun i e u h1 h2=>(a.xF i e u h1 h2).mono (fun _ h=> .inl h) (fun p hp=>hc p (.inl hp)),fun i t u h1 h2=> ?_,fun b hb'=> ?_,a.wg,hneT gt hgt a.yw⟩
 ·obtain⟨h1,h2⟩:=a.fE.bO b e
  exact hb b h1 h2 (fun e'=>a.wg (by rw[e,e'])) (fun e'=>htwo b e e')
 ·have hf:aU (tvs++[v])=aU tvs++v.cells.toList:=by rw[kN];simp[aU]
  rw[hf,List.length_append];exact o
 ·rcases Nat.lt_or_ge i ts.length with hi|hi
  ·rw[List.getElem?_append_left hi] at h1
   rw[List.getElem?_append_left (by rw[a.ti];exact hi)] at h2;exact(a.xY i t u h1 h2).mono (fun _ h=> .inl h) (fun p hp=>hc p (.inl hp))
  ·rw[List.getElem?_append_right hi] at h1
   rw[List.getElem?_append_right (by rw[a.ti];exact hi),a.ti] at h2
   have h0:i-ts.length=0:=by
    have:=(List.getElem?_eq_some_iff.1 h1).1;simp at this;exact this
   rw[h0] at h1 h2;injection h1 with h1
   injection h2 with h2
   subst h1 h2;exact hr.mono (fun _ h=> .inr h) (fun p hp=>hc p (.inr hp))
 ·obtain⟨b1,b2,b3,b4,b5⟩:=hS b hb'
  exact⟨b1,by omega,b3,b4,hneT b b2 b5⟩
def xI (W:World)(x:Ex)(v:Value)(W':World):Prop:=∃S:Nat→Prop,dH W' S x v∧∀b,S b→W.heap.size≤b∧b<W'.heap.size
def Aw (W:World)(x:Tm)(v:Value)(W':World):Prop:=∃S:Nat→Prop,dW W' S x v∧∀b,S b→W.heap.size≤b∧b<W'.heap.size
structure XA {α:Type}(sx:World→(Nat→Prop)→α→Value→Prop)(K:Ctx)(w1:World)(p d:Nat)(r:Rs α)(done made:Bool)(S':Nat→Prop)(v:Value)(g7:Nat)(zt:TypeId)(zc:Array Value)(w:World):Prop where
 fz:Fz w1.heap.size K.g w1 w
 pre:done=false→PW K w p d false
 post:done=true→∃x p',r= .ok x p'∧PW K w p' d false∧sx w S' x v∧∀b,S' b→w1.heap.size≤b∧b<w.heap.size
 new:made=true→w1.heap.size≤g7∧aQ w g7 zt zc∧(done=true→¬S' g7)
theorem aQ.uT {w w':World}{k g:Nat}{T T':TypeId}{cs cs':Array Value}{h:Nat}(b:aQ w k T cs)(q:aQ w g T' cs')(a:Fz h g w w')(hh:w.heap.size≤h)(hne:T≠T':=by decide):aQ w' k T cs:=b.fz (a.less hh) (b.ne q hne)
theorem dW.bE {w:World}{S:Nat→Prop}{t:Tm}{v:Value}(h:dW w S t v):v.cells.size=4∧∀u∈v.cells.toList,u.oneCell'=true:=by
 obtain⟨A,c,A',c',rfl⟩:=h.form;refine⟨rfl,fun u hu=> ?_⟩;simp[Value.cells] at hu;rcases hu with rfl|rfl|rfl|rfl<;>rfl
theorem dH.bE {w:World}{S:Nat→Prop}{t:Ex}{v:Value}(h:dH w S t v):v.cells.size=4∧∀u∈v.cells.toList,u.oneCell'=true:=by
 obtain⟨A,c,rfl⟩:=h.form;refine⟨rfl,fun u hu=> ?_⟩;simp[Value.cells] at hu;rcases hu with rfl|rfl|rfl|rfl<;>rfl
theorem ld:cv Tryz.prog 4=some (some (.bool false)):=by kernel_rfl
theorem gm:∀ {l:List Value},(∀u∈l,u.oneCell'=true)→bE l
 | [],_=>trivial
 |v::r,h=>⟨h v List.mem_cons_self,gm fun u hu=>h u (List.mem_cons_of_mem _ hu)⟩
theorem vD (K:Ctx)(hK:K.Ok)(h0 gt b0 b1 d p:Nat)(op:Int)(nm:List Nat)(es:List Ex)(ts:List Tm)(evs tvs:List Value)(vE vT:Value)(S0:Nat→Prop)(T:Nat→Nat→Rs Tm)(w:World)(pw:PW K w p d false)(hg0:K.g<h0)(hgt:h0≤gt)(hh:h0≤w.heap.size)
  (kt:aQ w gt 71 #[.int .i64 op, .string (strOf nm),vE,vT]) (kb0:aQ w b0 227 #[.pointer (some ⟨gt,0,none⟩)]) (kb1:aQ w b1 189 #[.pointer (some ⟨K.g,0,none⟩)]) (aq:dA w h0 gt es ts evs tvs vE vT S0) (hl:ts.length≤10)
  (hc:∀W,PW K W p d false→Fz w.heap.size K.g w W→Calls Tryz.prog 128 #[.pointer (some ⟨K.g,0,none⟩)] W (PR K W d (T p d) (Aw W))) (hne:T p d≠ .out):
  Calls Tryz.prog 212 #[.pointer (some ⟨b0,0,none⟩), .pointer (some ⟨b1,0,none⟩)] w (rF K h0 w d (T p d) fun x _ W'=>Kp w W'∧∃evs tvs vE vT S,aQ W' gt 71 #[.int .i64 op, .string (strOf nm),vE,vT]∧dA W' h0 gt es (ts++[x]) evs tvs vE vT S):=by
 have hle:=hK.le;have hgg:K.g<w.heap.size:=pw.aE.lt;have hgtl:gt<w.heap.size:=kt.lt;obtain⟨AE,cE,rfl,-⟩:=aq.fE.reads;obtain⟨AT,cT,rfl,-⟩:=aq.iW.reads;refine Zs 27 Tryz.func212 ?_;refine Cd.seq ?_;refine Cd.lV (σT:=Nat × Bool) 3 (by kernel_rfl) rfl rfl (fun σ=>[.pointer (some ⟨σ.1,0,none⟩),undef,undef]) (fun σ S W=>Below w.heap.size w W∧(S 0=true→w.heap.size≤σ.1∧aQ W σ.1 4 #[.bool σ.2])) ((0,false)) ?_ ?_ ?_
 ·intro w0 hb0 hs0
  exact⟨hb0,fun h=>by cases h⟩
 ·intro k o ho
  match k,ho with
  |0,ho=>
   injection ho with ho
   subst ho;intro σ S w hS hpre hdc hX;refine Zl ld ?_;intro g2 w' n2;refine Seq.nil ?_;exact ai.aO (σ:=σ) (σ':=(g2,false)) rfl rfl rfl hpre rfl (fun j hj=>by cases j with|zero=>rw[hS] at hj;cases hj|succ j=>rfl) ⟨hX.1.trans (n2.below.mono hX.1.size),fun _=>⟨Nat.le_trans hX.1.size n2.ge,n2.aE⟩⟩
  |1,ho=>
   injection ho with ho
   subst ho;intro σ S w hS hpre hdc hX;have h2:=hX.2 (hpre 0 (aI rfl));refine Zq h2.2 ?_;intro w' pq;refine Seq.nil ?_;exact ai.jx (σ:=σ) (σ':=(σ.1,true)) rfl rfl rfl (fun _ _=>rfl) ⟨pq.ia hX.1 h2.1 h2.2.lt,fun _=>⟨h2.1,pq.aE⟩⟩
  |2,ho=>
   injection ho with ho
   subst ho;intro σ S w hS hpre hdc hX;have h2:=hX.2 (hpre 0 (aI rfl));refine Zq h2.2 ?_;intro w' pq;refine Seq.nil ?_;exact ai.jx (σ:=σ) (σ':=(σ.1,false)) rfl rfl rfl (fun _ _=>rfl) ⟨pq.ia hX.1 h2.1 h2.2.lt,fun _=>⟨h2.1,pq.aE⟩⟩
  |k+3,ho=>simp at ho
 rintro⟨g2,b2⟩ S w2 hS ⟨bel2,hX⟩;obtain⟨e2,k2⟩:=hX (hS 0 (by decide));dsimp only at e2 k2;have pw2:=pw.step hle bel2;have kt2:=kt.step bel2;have kb02:=kb0.step bel2;have kb12:=kb1.step bel2;have aq2:=aq.step bel2;have hs2:=bel2.size;have fz2:Fz w.heap.size K.g w w2:=Fz.of bel2;have kp2:Kp w w2:=(Kp.refl w).step bel2;have hh2:h0≤w2.heap.size:=by omega
 clear pw kt kb0 kb1 aq hX;have hcall:∀W,PW K W p d false→Fz w2.heap.size K.g w2 W→Calls Tryz.prog 128 #[.pointer (some ⟨K.g,0,none⟩)] W (PR K W d (T p d) (Aw W)):=fun W h1 h2=>hc W h1 (fz2.trans (h2.less hs2));refine ZL Tryz.underlying4 k2 ?_;refine bV 0 1 3 (Zt ?_);refine Cd.cond rfl (fun hcn=> ?_) (fun hcn=> ?_)
 ·skip
  refine Cd.seq ?_;refine Cd.lV (σT:=Value × (Nat→Prop) × Nat) 8 (by kernel_rfl) rfl rfl (fun σ=>[.pointer (some ⟨gt,0,none⟩), .pointer (some ⟨gt,0,none⟩), .pointer (some ⟨gt,3,none⟩), .slice AT ts.length cT, .pointer (some ⟨K.g,0,none⟩),σ.1, .int .i64 (ts.length:Int), .slice (some ⟨σ.2.2,0,none⟩) 1 1]) (fun σ S W=>XA dW K w2 p d (T p d) (S 5) (S 7) σ.2.1 σ.1 σ.2.2 71 #[.int .i64 0, .string {data:= #[]}, .slice none 0 0, .slice none 0 0] W) ((undef,fun _=>False,0)) ?_ ?_ ?_
  ·intro w0 hb0 hs0
   exact⟨Fz.of hb0,fun _=>pw2.step hle hb0,fun h=>(by cases h),fun h=>(by cases h)⟩
  ·intro k o ho
   match k,ho with
   |0,ho=>
    injection ho with ho
    subst ho;intro σ S w hS hpre hdc hX;refine Seq.val (ah.aB (g:=b0) (i:=0) rfl rfl Tryz.underlying227 rfl (kb02.uT pw2.aE hX.fz (Nat.le_refl _)) rfl) rfl rfl rfl (Seq.nil ?_);exact ai.aO rfl rfl rfl hpre rfl (fun _ _=>rfl) hX
   |1,ho=>
    injection ho with ho
    subst ho;intro σ S w hS hpre hdc hX;refine Seq.val (ah.nilCheck rfl rfl) rfl rfl rfl (Seq.nil ?_);exact ai.aO rfl rfl rfl hpre rfl (fun _ _=>rfl) hX
   |2,ho=>
    injection ho with ho
    subst ho;intro σ S w hS hpre hdc hX;refine Seq.val (ah.gL 3 rfl rfl Tryz.underlying71 rfl (by kernel_rfl)) rfl rfl rfl (Seq.nil ?_);exact ai.aO rfl rfl rfl hpre rfl (fun _ _=>rfl) hX
   |3,ho=>
    injection ho with ho
    subst ho;intro σ S w hS hpre hdc hX;refine Seq.val (ah.aB (g:=gt) (i:=3) rfl rfl Tryz.underlying69 rfl (kt2.fz hX.fz (by omega)) rfl) rfl rfl rfl (Seq.nil ?_);exact ai.aO rfl rfl rfl hpre rfl (fun _ _=>rfl) hX
   |4,ho=>
    injection ho with ho
    subst ho;intro σ S w hS hpre hdc hX;refine Seq.val (ah.aB (g:=b1) (i:=0) rfl rfl Tryz.underlying189 rfl (kb12.uT pw2.aE hX.fz (Nat.le_refl _)) rfl) rfl rfl rfl (Seq.nil ?_);exact ai.aO rfl rfl rfl hpre rfl (fun _ _=>rfl) hX
   |5,ho=>
    injection ho with ho
    subst ho;intro σ S w hS hpre hdc hX;have hcl:=hcall w (hX.pre hS) hX.fz;rcases Rs.cB hne with ⟨q,ov,hr⟩|⟨x,q,hr⟩
    ·rw[hr] at hcl
     refine Seq.bZ (Ze Tryz.func128) rfl hcl ?_;rintro e w6 ⟨hf,rfl,d6,hp6⟩;refine⟨_,rfl,fun a ha=>⟨ha.defers,?_⟩⟩;rw[hr];exact⟨(fz2.trans ((hX.fz.call hf).less hs2)).less hh,rfl,d6,hp6⟩
    ·rw[hr] at hcl
     refine Zc (Ze Tryz.func128) hcl ?_;rintro e w6 ⟨hf,v6,rfl,hp6,S6,hr6,hb6⟩;refine⟨_,rfl,Seq.nil ?_⟩;have hsz:=hX.fz.size;refine ai.aO (σ:=σ) (σ':=(v6,S6,σ.2.2)) rfl rfl rfl hpre rfl (fun j hj=> ?_) ⟨hX.fz.call hf,(fun h=>by cases h),fun _=>⟨x,q,hr,hp6,hr6,fun b hb=>⟨by have:=(hb6 b hb).1;omega,(hb6 b hb).2⟩⟩,fun hm=> ?_⟩
     ·match j,hj with
      |0,_=>rfl
      |1,_=>rfl
      |2,_=>rfl
      |3,_=>rfl
      |4,_=>rfl
      |5,hj=>rw[hS] at hj;cases hj
      |6,_=>rfl
      |7,_=>rfl
      |j+8,_=>rfl
     ·obtain⟨m1,m2,-⟩:=hX.new hm
      exact⟨m1,m2.fz hf (by omega),fun _ hb=>Nat.lt_irrefl _ (Nat.lt_of_lt_of_le m2.lt (hb6 _ hb).1)⟩
   |6,ho=>
    injection ho with ho
    subst ho;intro σ S w hS hpre hdc hX;refine Seq.val (ah.len rfl rfl Tryz.underlying69) rfl rfl rfl (Seq.nil ?_);exact ai.aO rfl rfl rfl hpre rfl (fun _ _=>rfl) hX
   |7,ho=>
    injection ho with ho
    subst ho;intro σ S w hS hpre hdc hX;refine Seq.slice (vs:=[.agg #[.int .i64 0, .string {data:= #[]}, .slice none 0 0, .slice none 0 0]]) (s:=4) rfl rfl rfl Tryz.underlying69 (by kernel_rfl) bC (by omega) (by omega) ⟨rfl,trivial⟩ rfl rfl rfl ?_;intro g7 w' n7;refine Seq.nil ?_;have hsz:=hX.fz.size;refine ai.aO (σ:=σ) (σ':=(σ.1,σ.2.1,g7)) rfl rfl rfl hpre rfl (fun j hj=> ?_) ⟨hX.fz.step n7.below,fun h=>(hX.pre h).step hle n7.below,fun h=> ?_,fun _=>⟨Nat.le_trans hsz n7.ge,n7.aE,fun h hb=> ?_⟩⟩
    ·match j,hj with
     |0,_=>rfl
     |1,_=>rfl
     |2,_=>rfl
     |3,_=>rfl
     |4,_=>rfl
     |5,_=>rfl
     |6,_=>rfl
     |7,hj=>rw[hS] at hj;cases hj
     |j+8,_=>rfl
    ·obtain⟨x,q,q1,q2,q3,q4⟩:=hX.post h
     exact⟨x,q,q1,q2.step hle n7.below,q3.mono (fun _ h=>h) (fun a ha=>n7.below.cell (q4 _ ha).2),fun b hb=>⟨(q4 b hb).1,Nat.lt_of_lt_of_le (q4 b hb).2 n7.below.size⟩⟩
    ·obtain⟨x,q,q1,q2,q3,q4⟩:=hX.post h
     exact Nat.lt_irrefl _ (Nat.lt_of_lt_of_le (q4 _ hb).2 n7.ge)
   |k+8,ho=>simp at ho
  ·rintro⟨v5,S5,g7⟩ S w3 hS hX
   obtain⟨x,q,hr,pw3,hrep,haway⟩:=hX.post (hS 5 (by decide));obtain⟨e7,k7,hn7⟩:=hX.new (hS 7 (by decide));dsimp only at hrep haway e7 k7;have fz3:=hX.fz;clear hX;have hs3:=fz3.size;have k90:=kt2.fz fz3 (by omega);have aq3:=aq2.fz fz3 hg0;have kp3:Kp w w3:=kp2.fz pw2.aE fz3;have e90:h0≤gt:=hgt;have bel:Fz h0 K.g w w3:=(fz2.trans (fz3.less hs2)).less hh;have hh3:h0≤w3.heap.size:=by omega
   have hown:=aq3.iW;have hones:=hrep.bE;rw[hr];refine Seq.kQ rfl rfl rfl Tryz.underlying69 (by kernel_rfl) bC rfl (by decide) (b:=72) (by kernel_rfl) hown (Reads.aE (size:=4) k7 1 rfl) (by intro z hz;simp at hz;rcases hz with rfl|rfl|rfl|rfl<;>rfl) hh3 (by simp only[maxLen];omega) (by omega) rfl rfl rfl ?_;intro v' w4 hown' happ hv';obtain⟨AV,cV,hvV,-⟩:=hown'.reads;subst hvV;have k90':=k90.grown happ.grown (fun e=>aq3.yw e.symm);have pw4:PW K w4 q d false:=⟨pw3.aE.grown happ.grown (fun e=>by have:=hown.bO _ e.symm;omega),pw3.rd.below (happ.below.mono (by omega)),pw3.cG,pw3.dm⟩;have kp4:=kp3.app hown happ;have bel4:Fz h0 K.g w w4:=bel.trans (Fz.of happ.below);have hs4:=happ.below.size;have hgrow:=happ.grown;clear bel k90 kp3;have bel:=bel4;have k90:=k90';have kp:=kp4;have pwk:=pw4.aE;refine Zv (ah.nilCheck rfl rfl) ?_;refine Zf 3 Tryz.underlying71 ?_;refine Zq k90 ?_;intro w1 pw1;replace bel:=bel.put k90 pw1 e90;replace kp:=kp.put k90 pw1 e90;replace k90:=pw1.aE;refine cg 0 1 3 9 10 12 (jw ?_);have hb5:∀b,b<w3.heap.size→b≠gt→(Value.slice AT ts.length cT).ownBlock≠some b→w1.heap[b]? =w3.heap[b]? :=fun b h1 h2 h3=>(pw1.grown.block b (by omega) (fun e=>h2 (by injection e))).trans (hgrow.block b h1 (fun e=>h3 e.symm))
   have hvown:∀b,(Value.slice AV (ts.length+1) cV).ownBlock=some b→b≠gt:=fun b e1 e2=>by
    rcases hv' with e|e
    ·exact aq3.yw (by rw[←e,e1,e2])
    ·rw[e] at e1;injection e1 with e1;omega
   have hown5:Own w1 h0 71 4 (.slice AV (ts.length+1) cV) (ts.length+1) (aU tvs++_):=hown'.iG (Nat.le_of_eq pw1.size.symm) fun b e=>pw1.grown.block b ((hown'.bO b e).2) (fun e'=>hvown b e (by injection e'));have hlv:(aU tvs).length=ts.length*4:=hown.row.1;obtain⟨gv,cap,cur,hvv,hgv,hgvl,kv,hfit,hset⟩:=hown5.mu hlv;have hgne:gv≠gt:=hvown gv (by rw[hvv];rfl);obtain⟨rfl,rfl⟩:AV=some ⟨gv,0,none⟩∧cV=cap:=by injection hvv with h1 _ h3;exact⟨h1,h3⟩
   have haddr:(⟨gv,0,none⟩:Addr).add (ts.length*4)=⟨gv,ts.length*4,none⟩:=by unfold Addr.add;split<;>simp_all
   refine Zv (ah.cJ rfl rfl rfl Tryz.underlying69 (s:=4) (by kernel_rfl) (j:=ts.length) rfl (by omega)) ?_;rw[haddr];refine Seq.il rfl rfl rfl rfl (m:=4) (by kernel_rfl) hones.1 (gm hones.2) kv (by rw[hones.1];exact hfit) rfl rfl ?_;intro w6 p6;have hown6:=hset w6 v5.cells hones.1 p6;have kp6:Kp w w6:=kp.put kv p6 hgv;have bel6:Fz h0 K.g w w6:=bel.put kv p6 hgv;have k906:=k90.put p6 (fun e=>hgne e.symm);have pw6:PW K w6 q d false:=⟨(pwk.put pw1 (by omega)).put p6 (by omega),(pw4.rd.below (pw1.below (by omega) k90'.lt)).below (p6.below (by omega) hgvl),pw3.cG,pw3.dm⟩;have hsl:=p6.size;have hsl2:=pw1.size
   have aq6:=aq3.As hrep (fun b hb=>⟨by have:=(haway b hb).1;omega,(haway b hb).2,by have:=(haway b hb).1;omega,fun e=>by have:=(aq2.fE.bO b e).2;have:=(haway b hb).1;omega,fun e=>by have:=(aq2.iW.bO b e).2;have:=(haway b hb).1;omega⟩) hown6 (by omega)
    (fun b _ h2 h3 h4=>(p6.grown.block b (by omega) (fun e=>by
     injection e with e
     rcases hv' with e'|e'
     ·exact h4 (by rw[←e',e];rfl)
     ·injection e' with e'
      have e':gv=w3.heap.size:=e';omega)).trans (hb5 b h2 h3 h4))
    (hv'.elim .inl fun e=> .inr ⟨_,e,Nat.le_refl _⟩) (by omega)
   refine cg 0 1 3 9 10 12 ?_;refine ai.fq rfl (.inr rfl) ?_;exact⟨bel6,_,rfl,pw6,kp6,_,_,_,_,_,k906,aq6⟩
 ·skip
  refine Cd.lV (σT:=Value × (Nat→Prop) × Nat × Value) 9 (by kernel_rfl) rfl rfl (fun σ=>[.pointer (some ⟨gt,0,none⟩), .pointer (some ⟨gt,0,none⟩), .pointer (some ⟨gt,0,none⟩), .pointer (some ⟨gt,3,none⟩), .slice AT ts.length cT, .pointer (some ⟨K.g,0,none⟩),σ.1, .slice (some ⟨σ.2.2.1,0,none⟩) 1 1,σ.2.2.2]) (fun σ S W=>(S 8=false→XA dW K w2 p d (T p d) (S 6) (S 7) σ.2.1 σ.1 σ.2.2.1 71 σ.1.cells W)∧(S 8=true→∃x q,T p d= .ok x q∧Kp w2 W∧Fz h0 K.g w2 W∧PW K W q d false∧aQ W gt 71 #[.int .i64 op, .string (strOf nm), .slice AE es.length cE, .slice AT ts.length cT]∧∃S',dA W h0 gt es (ts++[x]) evs (tvs++[σ.1]) (.slice AE es.length cE) σ.2.2.2 S')) ((undef,fun _=>False,0,undef)) ?_ ?_ ?_
  ·intro w0 hb0 hs0
   exact⟨fun _=>⟨Fz.of hb0,fun _=>pw2.step hle hb0,fun h=>(by cases h),fun h=>(by cases h)⟩,fun h=>(by cases h)⟩
  ·intro k o ho
   match k,ho with
   |0,ho=>
    injection ho with ho
    subst ho;intro σ S w hS hpre hdc hX
    have hb:aQ w b0 227 #[.pointer (some ⟨gt,0,none⟩)]:=by
     cases h8:S 8 with
     |false=>exact kb02.uT pw2.aE (hX.1 h8).fz (Nat.le_refl _)
     |true=>obtain⟨x,q,-,hkp,-⟩:=hX.2 h8;exact hkp.aE kb02
    refine Seq.val (ah.aB (g:=b0) (i:=0) rfl rfl Tryz.underlying227 rfl hb rfl) rfl rfl rfl (Seq.nil ?_);exact ai.aO rfl rfl rfl hpre rfl (fun _ _=>rfl) hX
   |1,ho=>
    injection ho with ho
    subst ho;intro σ S w hS hpre hdc hX
    have hb:aQ w b0 227 #[.pointer (some ⟨gt,0,none⟩)]:=by
     cases h8:S 8 with
     |false=>exact kb02.uT pw2.aE (hX.1 h8).fz (Nat.le_refl _)
     |true=>obtain⟨x,q,-,hkp,-⟩:=hX.2 h8;exact hkp.aE kb02
    refine Seq.val (ah.aB (g:=b0) (i:=0) rfl rfl Tryz.underlying227 rfl hb rfl) rfl rfl rfl (Seq.nil ?_);exact ai.aO rfl rfl rfl hpre rfl (fun _ _=>rfl) hX
   |2,ho=>
    injection ho with ho
    subst ho;intro σ S w hS hpre hdc hX;refine Seq.val (ah.nilCheck rfl rfl) rfl rfl rfl (Seq.nil ?_);exact ai.aO rfl rfl rfl hpre rfl (fun _ _=>rfl) hX
   |3,ho=>
    injection ho with ho
    subst ho;intro σ S w hS hpre hdc hX;refine Seq.val (ah.gL 3 rfl rfl Tryz.underlying71 rfl (by kernel_rfl)) rfl rfl rfl (Seq.nil ?_);exact ai.aO rfl rfl rfl hpre rfl (fun _ _=>rfl) hX
   |4,ho=>
    injection ho with ho
    subst ho;intro σ S w hS hpre hdc hX
    have h8:S 8=false:=by
     cases h8:S 8 with
     |false=>rfl
     |true=>have:=hdc 8 _ rfl h8 4 (aI rfl);rw[hS] at this;cases this
    refine Seq.val (ah.aB (g:=gt) (i:=3) rfl rfl Tryz.underlying69 rfl (kt2.fz (hX.1 h8).fz (by omega)) rfl) rfl rfl rfl (Seq.nil ?_);exact ai.aO rfl rfl rfl hpre rfl (fun _ _=>rfl) hX
   |5,ho=>
    injection ho with ho
    subst ho;intro σ S w hS hpre hdc hX
    have hb:aQ w b1 189 #[.pointer (some ⟨K.g,0,none⟩)]:=by
     cases h8:S 8 with
     |false=>exact kb12.uT pw2.aE (hX.1 h8).fz (Nat.le_refl _)
     |true=>obtain⟨x,q,-,hkp,-⟩:=hX.2 h8;exact hkp.aE kb12
    refine Seq.val (ah.aB (g:=b1) (i:=0) rfl rfl Tryz.underlying189 rfl hb rfl) rfl rfl rfl (Seq.nil ?_);exact ai.aO rfl rfl rfl hpre rfl (fun _ _=>rfl) hX
   |6,ho=>
    injection ho with ho
    subst ho;intro σ S w hS hpre hdc hX
    have h8:S 8=false:=by
     cases h8:S 8 with
     |false=>rfl
     |true=>have:=hdc 8 _ rfl h8 6 (aI rfl);rw[hS] at this;cases this
    have h7:S 7=false:=by
     cases h7:S 7 with
     |false=>rfl
     |true=>have:=hdc 7 _ rfl h7 6 (aI rfl);rw[hS] at this;cases this
    have hXa:=hX.1 h8;have hcl:=hcall w (hXa.pre hS) hXa.fz;rcases Rs.cB hne with ⟨q,ov,hr⟩|⟨x,q,hr⟩
    ·rw[hr] at hcl
     refine Seq.bZ (Ze Tryz.func128) rfl hcl ?_;rintro e w6 ⟨hf,rfl,d6,hp6⟩;refine⟨_,rfl,fun a ha=>⟨ha.defers,?_⟩⟩;rw[hr];exact⟨(fz2.trans ((hXa.fz.call hf).less hs2)).less hh,rfl,d6,hp6⟩
    ·rw[hr] at hcl
     refine Zc (Ze Tryz.func128) hcl ?_;rintro e w6 ⟨hf,v6,rfl,hp6,S6,hr6,hb6⟩;refine⟨_,rfl,Seq.nil ?_⟩;have hsz:=hXa.fz.size;refine ai.aO (σ:=σ) (σ':=(v6,S6,σ.2.2.1,σ.2.2.2)) rfl rfl rfl hpre rfl (fun j hj=> ?_) ⟨fun _=>⟨hXa.fz.call hf,(fun h=>by cases h),fun _=>⟨x,q,hr,hp6,hr6,fun b hb=>⟨by have:=(hb6 b hb).1;omega,(hb6 b hb).2⟩⟩,fun hm=> ?_⟩,fun hm=> ?_⟩
     ·match j,hj with
      |0,_=>rfl
      |1,_=>rfl
      |2,_=>rfl
      |3,_=>rfl
      |4,_=>rfl
      |5,_=>rfl
      |6,hj=>rw[hS] at hj;cases hj
      |7,hj=>rw[h7] at hj;cases hj
      |8,_=>rfl
      |j+9,_=>rfl
     ·have hm:S 7=true:=hm
      rw[h7] at hm;cases hm
     ·have hm:S 8=true:=hm
      rw[h8] at hm;cases hm
   |7,ho=>
    injection ho with ho
    subst ho;intro σ S w hS hpre hdc hX
    have h8:S 8=false:=by
     cases h8:S 8 with
     |false=>rfl
     |true=>have:=hdc 8 _ rfl h8 7 (aI rfl);rw[hS] at this;cases this
    have hXa:=hX.1 h8;obtain⟨x,q,q1,q2,q3,q4⟩:=hXa.post (hpre 6 (aI rfl));have hones:=q3.bE;refine Seq.slice (vs:=[σ.1]) (s:=4) rfl rfl rfl Tryz.underlying69 (by kernel_rfl) bC (by omega) (by omega) ⟨hones.1,trivial⟩ rfl rfl rfl ?_;intro g7 w' n7;refine Seq.nil ?_;have hsz:=hXa.fz.size;have hcells:(aU [σ.1]).toArray=σ.1.cells:=by simp[aU]
    have n7b:=n7.aE;rw[hcells] at n7b;refine ai.aO (σ:=σ) (σ':=(σ.1,σ.2.1,g7,σ.2.2.2)) rfl rfl rfl hpre rfl (fun j hj=> ?_) ⟨fun _=>⟨hXa.fz.step n7.below,fun h=>(hXa.pre h).step hle n7.below,fun h=> ?_,fun _=>⟨Nat.le_trans hsz n7.ge,n7b,fun h hb=> ?_⟩⟩,fun hm=> ?_⟩
    ·match j,hj with
     |0,_=>rfl
     |1,_=>rfl
     |2,_=>rfl
     |3,_=>rfl
     |4,_=>rfl
     |5,_=>rfl
     |6,_=>rfl
     |7,hj=>rw[hS] at hj;cases hj
     |8,_=>rfl
     |j+9,_=>rfl
    ·exact⟨x,q,q1,q2.step hle n7.below,q3.mono (fun _ h=>h) (fun a ha=>n7.below.cell (q4 _ ha).2),fun b hb=>⟨(q4 b hb).1,Nat.lt_of_lt_of_le (q4 b hb).2 n7.below.size⟩⟩
    ·exact Nat.lt_irrefl _ (Nat.lt_of_lt_of_le (q4 _ hb).2 n7.ge)
    ·have hm:S 8=true:=hm
     rw[h8] at hm;cases hm
   |8,ho=>
    injection ho with ho
    subst ho;intro σ S w hS hpre hdc hX;have hXa:=hX.1 hS;obtain⟨x,q,hr,pw3,hrep,haway⟩:=hXa.post (hpre 6 (aI rfl));obtain⟨e7,k7,hn7⟩:=hXa.new (hpre 7 (aI rfl));have hones:=hrep.bE;have hsz:=hXa.fz.size;have aq3:=aq2.fz hXa.fz hg0;have hown:=aq3.iW;have k90:=kt2.fz hXa.fz (by omega);refine Seq.kQ rfl rfl rfl Tryz.underlying69 (by kernel_rfl) bC rfl (by decide) (b:=72) (by kernel_rfl) hown (Reads.aE (size:=4) k7 1 hones.1) hones.2 (by omega) (by simp only[maxLen];omega) (by omega) rfl rfl rfl ?_;intro v' w4 hown' happ hv';refine Seq.nil ?_;have hs4:=happ.below.size
    have aq6:=aq3.As hrep (fun b hb=>⟨by have:=(haway b hb).1;omega,(haway b hb).2,by have:=(haway b hb).1;omega,fun e=>by have:=(aq2.fE.bO b e).2;have:=(haway b hb).1;omega,fun e=>by have:=(aq2.iW.bO b e).2;have:=(haway b hb).1;omega⟩) hown' hs4
     (fun b _ h2 h3 h4=>happ.grown.block b h2 (fun e=>h4 e.symm)) (hv'.elim .inl fun e=> .inr ⟨_,e,Nat.le_refl _⟩) (by omega)
    refine ai.aO (σ:=σ) (σ':=(σ.1,σ.2.1,σ.2.2.1,v')) rfl rfl rfl hpre rfl (fun j hj=> ?_) ⟨(fun h=>by cases h),fun _=>⟨x,q,hr,((Kp.refl w2).fz pw2.aE hXa.fz).app hown happ,(hXa.fz.less hh2).trans (Fz.of happ.below),⟨pw3.aE.grown happ.grown (fun e=>by have:=hown.bO _ e.symm;omega),pw3.rd.below (happ.below.mono (by omega)),pw3.cG,pw3.dm⟩,k90.grown happ.grown (fun e=>aq3.yw e.symm),_,aq6⟩⟩
    match j,hj with
    |0,_=>rfl
    |1,_=>rfl
    |2,_=>rfl
    |3,_=>rfl
    |4,_=>rfl
    |5,_=>rfl
    |6,_=>rfl
    |7,_=>rfl
    |8,hj=>rw[hS] at hj;cases hj
    |j+9,_=>rfl
   |k+9,ho=>simp at ho
  ·rintro⟨v6,S6,g7,v8⟩ S w3 hS hX
   obtain⟨x,q,hr,kp3,fz3,pw3,k90,S',aq3⟩:=hX.2 (hS 8 (by decide));clear hX;dsimp only at aq3;have hs3:=fz3.size;have e90:h0≤gt:=hgt;have bel:Fz h0 K.g w w3:=(fz2.less hh).trans fz3;have kp:=kp2.trans kp3;have pwk:=pw3.aE;have hlt3:=k90.lt;rw[hr];obtain⟨AX,cX,hvX,-⟩:=aq3.iW.reads;subst hvX;refine Zv (ah.nilCheck rfl rfl) ?_;refine Zf 3 Tryz.underlying71 ?_;refine Zq k90 ?_;intro w1 pw1;replace bel:=bel.put k90 pw1 e90;replace kp:=kp.put k90 pw1 e90;replace aq3:=aq3.put k90 pw1 e90;replace k90:=pw1.aE;refine bV 0 1 3 ?_;have pw5:PW K w1 q d false:=⟨pwk.put pw1 (by omega),pw3.rd.below (pw1.below (by omega) hlt3),pw3.cG,pw3.dm⟩;refine ai.fq rfl (.inr rfl) ?_;exact⟨bel,_,rfl,pw5,kp,_,_,_,_,_,k90,aq3⟩
theorem uU (K:Ctx)(hK:K.Ok)(h0 gt b0 b1 d p:Nat)(op:Int)(nm:List Nat)(es:List Ex)(ts:List Tm)(evs tvs:List Value)(vE vT:Value)(S0:Nat→Prop)(T:Nat→Nat→Rs Ex)(w:World)(pw:PW K w p d false)(hg0:K.g<h0)(hgt:h0≤gt)(hh:h0≤w.heap.size)
  (kt:aQ w gt 71 #[.int .i64 op, .string (strOf nm),vE,vT]) (kb0:aQ w b0 227 #[.pointer (some ⟨gt,0,none⟩)]) (kb1:aQ w b1 189 #[.pointer (some ⟨K.g,0,none⟩)]) (aq:dA w h0 gt es ts evs tvs vE vT S0) (hl:es.length≤10)
  (hc:∀W,PW K W p d false→Fz w.heap.size K.g w W→Calls Tryz.prog 151 #[.pointer (some ⟨K.g,0,none⟩), .int .i64 0] W (PR K W d (T p d) (xI W))) (hne:T p d≠ .out):
  Calls Tryz.prog 211 #[.pointer (some ⟨b0,0,none⟩), .pointer (some ⟨b1,0,none⟩)] w (rF K h0 w d (T p d) fun x _ W'=>Kp w W'∧∃evs tvs vE vT S,aQ W' gt 71 #[.int .i64 op, .string (strOf nm),vE,vT]∧dA W' h0 gt (es++[x]) ts evs tvs vE vT S):=by
 have hle:=hK.le;have hgg:K.g<w.heap.size:=pw.aE.lt;have hgtl:gt<w.heap.size:=kt.lt;obtain⟨AE,cE,rfl,-⟩:=aq.fE.reads;obtain⟨AT,cT,rfl,-⟩:=aq.iW.reads;refine Zs 27 Tryz.func211 ?_;refine Cd.seq ?_;refine Cd.lV (σT:=Nat × Bool) 3 (by kernel_rfl) rfl rfl (fun σ=>[.pointer (some ⟨σ.1,0,none⟩),undef,undef]) (fun σ S W=>Below w.heap.size w W∧(S 0=true→w.heap.size≤σ.1∧aQ W σ.1 4 #[.bool σ.2])) ((0,false)) ?_ ?_ ?_
 ·intro w0 hb0 hs0
  exact⟨hb0,fun h=>by cases h⟩
 ·intro k o ho
  match k,ho with
  |0,ho=>
   injection ho with ho
   subst ho;intro σ S w hS hpre hdc hX;refine Zl ld ?_;intro g2 w' n2;refine Seq.nil ?_;exact ai.aO (σ:=σ) (σ':=(g2,false)) rfl rfl rfl hpre rfl (fun j hj=>by cases j with|zero=>rw[hS] at hj;cases hj|succ j=>rfl) ⟨hX.1.trans (n2.below.mono hX.1.size),fun _=>⟨Nat.le_trans hX.1.size n2.ge,n2.aE⟩⟩
  |1,ho=>
   injection ho with ho
   subst ho;intro σ S w hS hpre hdc hX;have h2:=hX.2 (hpre 0 (aI rfl));refine Zq h2.2 ?_;intro w' pq;refine Seq.nil ?_;exact ai.jx (σ:=σ) (σ':=(σ.1,true)) rfl rfl rfl (fun _ _=>rfl) ⟨pq.ia hX.1 h2.1 h2.2.lt,fun _=>⟨h2.1,pq.aE⟩⟩
  |2,ho=>
   injection ho with ho
   subst ho;intro σ S w hS hpre hdc hX;have h2:=hX.2 (hpre 0 (aI rfl));refine Zq h2.2 ?_;intro w' pq;refine Seq.nil ?_;exact ai.jx (σ:=σ) (σ':=(σ.1,false)) rfl rfl rfl (fun _ _=>rfl) ⟨pq.ia hX.1 h2.1 h2.2.lt,fun _=>⟨h2.1,pq.aE⟩⟩
  |k+3,ho=>simp at ho
 rintro⟨g2,b2⟩ S w2 hS ⟨bel2,hX⟩;obtain⟨e2,k2⟩:=hX (hS 0 (by decide));dsimp only at e2 k2;have pw2:=pw.step hle bel2;have kt2:=kt.step bel2;have kb02:=kb0.step bel2;have kb12:=kb1.step bel2;have aq2:=aq.step bel2;have hs2:=bel2.size;have fz2:Fz w.heap.size K.g w w2:=Fz.of bel2;have kp2:Kp w w2:=(Kp.refl w).step bel2;have hh2:h0≤w2.heap.size:=by omega
 clear pw kt kb0 kb1 aq hX;have hcall:∀W,PW K W p d false→Fz w2.heap.size K.g w2 W→Calls Tryz.prog 151 #[.pointer (some ⟨K.g,0,none⟩), .int .i64 0] W (PR K W d (T p d) (xI W)):=fun W h1 h2=>hc W h1 (fz2.trans (h2.less hs2));refine ZL Tryz.underlying4 k2 ?_;refine bV 0 1 3 (Zt ?_);refine Cd.cond rfl (fun hcn=> ?_) (fun hcn=> ?_)
 ·skip
  refine Cd.seq ?_;refine Cd.lV (σT:=Value × (Nat→Prop) × Nat) 8 (by kernel_rfl) rfl rfl (fun σ=>[.pointer (some ⟨gt,0,none⟩), .pointer (some ⟨gt,0,none⟩), .pointer (some ⟨gt,2,none⟩), .slice AE es.length cE, .pointer (some ⟨K.g,0,none⟩),σ.1, .int .i64 (es.length:Int), .slice (some ⟨σ.2.2,0,none⟩) 1 1]) (fun σ S W=>XA dH K w2 p d (T p d) (S 5) (S 7) σ.2.1 σ.1 σ.2.2 105 #[.int .i64 0, .int .i64 0, .string {data:= #[]}, .slice none 0 0] W) ((undef,fun _=>False,0)) ?_ ?_ ?_
  ·intro w0 hb0 hs0
   exact⟨Fz.of hb0,fun _=>pw2.step hle hb0,fun h=>(by cases h),fun h=>(by cases h)⟩
  ·intro k o ho
   match k,ho with
   |0,ho=>
    injection ho with ho
    subst ho;intro σ S w hS hpre hdc hX;refine Seq.val (ah.aB (g:=b0) (i:=0) rfl rfl Tryz.underlying227 rfl (kb02.uT pw2.aE hX.fz (Nat.le_refl _)) rfl) rfl rfl rfl (Seq.nil ?_);exact ai.aO rfl rfl rfl hpre rfl (fun _ _=>rfl) hX
   |1,ho=>
    injection ho with ho
    subst ho;intro σ S w hS hpre hdc hX;refine Seq.val (ah.nilCheck rfl rfl) rfl rfl rfl (Seq.nil ?_);exact ai.aO rfl rfl rfl hpre rfl (fun _ _=>rfl) hX
   |2,ho=>
    injection ho with ho
    subst ho;intro σ S w hS hpre hdc hX;refine Seq.val (ah.gL 2 rfl rfl Tryz.underlying71 rfl (by kernel_rfl)) rfl rfl rfl (Seq.nil ?_);exact ai.aO rfl rfl rfl hpre rfl (fun _ _=>rfl) hX
   |3,ho=>
    injection ho with ho
    subst ho;intro σ S w hS hpre hdc hX;refine Seq.val (ah.aB (g:=gt) (i:=2) rfl rfl Tryz.underlying68 rfl (kt2.fz hX.fz (by omega)) rfl) rfl rfl rfl (Seq.nil ?_);exact ai.aO rfl rfl rfl hpre rfl (fun _ _=>rfl) hX
   |4,ho=>
    injection ho with ho
    subst ho;intro σ S w hS hpre hdc hX;refine Seq.val (ah.aB (g:=b1) (i:=0) rfl rfl Tryz.underlying189 rfl (kb12.uT pw2.aE hX.fz (Nat.le_refl _)) rfl) rfl rfl rfl (Seq.nil ?_);exact ai.aO rfl rfl rfl hpre rfl (fun _ _=>rfl) hX
   |5,ho=>
    injection ho with ho
    subst ho;intro σ S w hS hpre hdc hX;have hcl:=hcall w (hX.pre hS) hX.fz;rcases Rs.cB hne with ⟨q,ov,hr⟩|⟨x,q,hr⟩
    ·rw[hr] at hcl
     refine Seq.bZ (Ze Tryz.func151) rfl hcl ?_;rintro e w6 ⟨hf,rfl,d6,hp6⟩;refine⟨_,rfl,fun a ha=>⟨ha.defers,?_⟩⟩;rw[hr];exact⟨(fz2.trans ((hX.fz.call hf).less hs2)).less hh,rfl,d6,hp6⟩
    ·rw[hr] at hcl
     refine Zc (Ze Tryz.func151) hcl ?_;rintro e w6 ⟨hf,v6,rfl,hp6,S6,hr6,hb6⟩;refine⟨_,rfl,Seq.nil ?_⟩;have hsz:=hX.fz.size;refine ai.aO (σ:=σ) (σ':=(v6,S6,σ.2.2)) rfl rfl rfl hpre rfl (fun j hj=> ?_) ⟨hX.fz.call hf,(fun h=>by cases h),fun _=>⟨x,q,hr,hp6,hr6,fun b hb=>⟨by have:=(hb6 b hb).1;omega,(hb6 b hb).2⟩⟩,fun hm=> ?_⟩
     ·match j,hj with
      |0,_=>rfl
      |1,_=>rfl
      |2,_=>rfl
      |3,_=>rfl
      |4,_=>rfl
      |5,hj=>rw[hS] at hj;cases hj
      |6,_=>rfl
      |7,_=>rfl
      |j+8,_=>rfl
     ·obtain⟨m1,m2,-⟩:=hX.new hm
      exact⟨m1,m2.fz hf (by omega),fun _ hb=>Nat.lt_irrefl _ (Nat.lt_of_lt_of_le m2.lt (hb6 _ hb).1)⟩
   |6,ho=>
    injection ho with ho
    subst ho;intro σ S w hS hpre hdc hX;refine Seq.val (ah.len rfl rfl Tryz.underlying68) rfl rfl rfl (Seq.nil ?_);exact ai.aO rfl rfl rfl hpre rfl (fun _ _=>rfl) hX
   |7,ho=>
    injection ho with ho
    subst ho;intro σ S w hS hpre hdc hX;refine Seq.slice (vs:=[.agg #[.int .i64 0, .int .i64 0, .string {data:= #[]}, .slice none 0 0]]) (s:=4) rfl rfl rfl Tryz.underlying68 (by kernel_rfl) aP (by omega) (by omega) ⟨rfl,trivial⟩ rfl rfl rfl ?_;intro g7 w' n7;refine Seq.nil ?_;have hsz:=hX.fz.size;refine ai.aO (σ:=σ) (σ':=(σ.1,σ.2.1,g7)) rfl rfl rfl hpre rfl (fun j hj=> ?_) ⟨hX.fz.step n7.below,fun h=>(hX.pre h).step hle n7.below,fun h=> ?_,fun _=>⟨Nat.le_trans hsz n7.ge,n7.aE,fun h hb=> ?_⟩⟩
    ·match j,hj with
     |0,_=>rfl
     |1,_=>rfl
     |2,_=>rfl
     |3,_=>rfl
     |4,_=>rfl
     |5,_=>rfl
     |6,_=>rfl
     |7,hj=>rw[hS] at hj;cases hj
     |j+8,_=>rfl
    ·obtain⟨x,q,q1,q2,q3,q4⟩:=hX.post h
     exact⟨x,q,q1,q2.step hle n7.below,q3.mono (fun _ h=>h) (fun a ha=>n7.below.cell (q4 _ ha).2),fun b hb=>⟨(q4 b hb).1,Nat.lt_of_lt_of_le (q4 b hb).2 n7.below.size⟩⟩
    ·obtain⟨x,q,q1,q2,q3,q4⟩:=hX.post h
     exact Nat.lt_irrefl _ (Nat.lt_of_lt_of_le (q4 _ hb).2 n7.ge)
   |k+8,ho=>simp at ho
  ·rintro⟨v5,S5,g7⟩ S w3 hS hX
   obtain⟨x,q,hr,pw3,hrep,haway⟩:=hX.post (hS 5 (by decide));obtain⟨e7,k7,hn7⟩:=hX.new (hS 7 (by decide));dsimp only at hrep haway e7 k7;have fz3:=hX.fz;clear hX;have hs3:=fz3.size;have k90:=kt2.fz fz3 (by omega);have aq3:=aq2.fz fz3 hg0;have kp3:Kp w w3:=kp2.fz pw2.aE fz3;have e90:h0≤gt:=hgt;have bel:Fz h0 K.g w w3:=(fz2.trans (fz3.less hs2)).less hh;have hh3:h0≤w3.heap.size:=by omega
   have hown:=aq3.fE;have hones:=hrep.bE;rw[hr];refine Seq.kQ rfl rfl rfl Tryz.underlying68 (by kernel_rfl) aP rfl (by decide) (b:=56) (by kernel_rfl) hown (Reads.aE (size:=4) k7 1 rfl) (by intro z hz;simp at hz;rcases hz with rfl|rfl|rfl|rfl<;>rfl) hh3 (by simp only[maxLen];omega) (by omega) rfl rfl rfl ?_;intro v' w4 hown' happ hv';obtain⟨AV,cV,hvV,-⟩:=hown'.reads;subst hvV;have k90':=k90.grown happ.grown (fun e=>aq3.wg e.symm);have pw4:PW K w4 q d false:=⟨pw3.aE.grown happ.grown (fun e=>by have:=hown.bO _ e.symm;omega),pw3.rd.below (happ.below.mono (by omega)),pw3.cG,pw3.dm⟩;have kp4:=kp3.app hown happ;have bel4:Fz h0 K.g w w4:=bel.trans (Fz.of happ.below);have hs4:=happ.below.size;have hgrow:=happ.grown;clear bel k90 kp3;have bel:=bel4;have k90:=k90';have kp:=kp4;have pwk:=pw4.aE;refine Zv (ah.nilCheck rfl rfl) ?_;refine Zf 2 Tryz.underlying71 ?_;refine Zq k90 ?_;intro w1 pw1;replace bel:=bel.put k90 pw1 e90;replace kp:=kp.put k90 pw1 e90;replace k90:=pw1.aE;refine cg 0 1 3 9 10 12 (jw ?_);have hb5:∀b,b<w3.heap.size→b≠gt→(Value.slice AE es.length cE).ownBlock≠some b→w1.heap[b]? =w3.heap[b]? :=fun b h1 h2 h3=>(pw1.grown.block b (by omega) (fun e=>h2 (by injection e))).trans (hgrow.block b h1 (fun e=>h3 e.symm))
   have hvown:∀b,(Value.slice AV (es.length+1) cV).ownBlock=some b→b≠gt:=fun b e1 e2=>by
    rcases hv' with e|e
    ·exact aq3.wg (by rw[←e,e1,e2])
    ·rw[e] at e1;injection e1 with e1;omega
   have hown5:Own w1 h0 105 4 (.slice AV (es.length+1) cV) (es.length+1) (aU evs++_):=hown'.iG (Nat.le_of_eq pw1.size.symm) fun b e=>pw1.grown.block b ((hown'.bO b e).2) (fun e'=>hvown b e (by injection e'));have hlv:(aU evs).length=es.length*4:=hown.row.1;obtain⟨gv,cap,cur,hvv,hgv,hgvl,kv,hfit,hset⟩:=hown5.mu hlv;have hgne:gv≠gt:=hvown gv (by rw[hvv];rfl);obtain⟨rfl,rfl⟩:AV=some ⟨gv,0,none⟩∧cV=cap:=by injection hvv with h1 _ h3;exact⟨h1,h3⟩
   have haddr:(⟨gv,0,none⟩:Addr).add (es.length*4)=⟨gv,es.length*4,none⟩:=by unfold Addr.add;split<;>simp_all
   refine Zv (ah.cJ rfl rfl rfl Tryz.underlying68 (s:=4) (by kernel_rfl) (j:=es.length) rfl (by omega)) ?_;rw[haddr];refine Seq.il rfl rfl rfl rfl (m:=4) (by kernel_rfl) hones.1 (gm hones.2) kv (by rw[hones.1];exact hfit) rfl rfl ?_;intro w6 p6;have hown6:=hset w6 v5.cells hones.1 p6;have kp6:Kp w w6:=kp.put kv p6 hgv;have bel6:Fz h0 K.g w w6:=bel.put kv p6 hgv;have k906:=k90.put p6 (fun e=>hgne e.symm);have pw6:PW K w6 q d false:=⟨(pwk.put pw1 (by omega)).put p6 (by omega),(pw4.rd.below (pw1.below (by omega) k90'.lt)).below (p6.below (by omega) hgvl),pw3.cG,pw3.dm⟩;have hsl:=p6.size;have hsl2:=pw1.size
   have aq6:=aq3.zi hrep (fun b hb=>⟨by have:=(haway b hb).1;omega,(haway b hb).2,by have:=(haway b hb).1;omega,fun e=>by have:=(aq2.fE.bO b e).2;have:=(haway b hb).1;omega,fun e=>by have:=(aq2.iW.bO b e).2;have:=(haway b hb).1;omega⟩) hown6 (by omega)
    (fun b _ h2 h3 h4=>(p6.grown.block b (by omega) (fun e=>by
     injection e with e
     rcases hv' with e'|e'
     ·exact h4 (by rw[←e',e];rfl)
     ·injection e' with e'
      have e':gv=w3.heap.size:=e';omega)).trans (hb5 b h2 h3 h4))
    (hv'.elim .inl fun e=> .inr ⟨_,e,Nat.le_refl _⟩) (by omega)
   refine cg 0 1 3 9 10 12 ?_;refine ai.fq rfl (.inr rfl) ?_;exact⟨bel6,_,rfl,pw6,kp6,_,_,_,_,_,k906,aq6⟩
 ·skip
  refine Cd.lV (σT:=Value × (Nat→Prop) × Nat × Value) 9 (by kernel_rfl) rfl rfl (fun σ=>[.pointer (some ⟨gt,0,none⟩), .pointer (some ⟨gt,0,none⟩), .pointer (some ⟨gt,0,none⟩), .pointer (some ⟨gt,2,none⟩), .slice AE es.length cE, .pointer (some ⟨K.g,0,none⟩),σ.1, .slice (some ⟨σ.2.2.1,0,none⟩) 1 1,σ.2.2.2]) (fun σ S W=>(S 8=false→XA dH K w2 p d (T p d) (S 6) (S 7) σ.2.1 σ.1 σ.2.2.1 105 σ.1.cells W)∧(S 8=true→∃x q,T p d= .ok x q∧Kp w2 W∧Fz h0 K.g w2 W∧PW K W q d false∧aQ W gt 71 #[.int .i64 op, .string (strOf nm), .slice AE es.length cE, .slice AT ts.length cT]∧∃S',dA W h0 gt (es++[x]) ts (evs++[σ.1]) tvs σ.2.2.2 (.slice AT ts.length cT) S')) ((undef,fun _=>False,0,undef)) ?_ ?_ ?_
  ·intro w0 hb0 hs0
   exact⟨fun _=>⟨Fz.of hb0,fun _=>pw2.step hle hb0,fun h=>(by cases h),fun h=>(by cases h)⟩,fun h=>(by cases h)⟩
  ·intro k o ho
   match k,ho with
   |0,ho=>
    injection ho with ho
    subst ho;intro σ S w hS hpre hdc hX
    have hb:aQ w b0 227 #[.pointer (some ⟨gt,0,none⟩)]:=by
     cases h8:S 8 with
     |false=>exact kb02.uT pw2.aE (hX.1 h8).fz (Nat.le_refl _)
     |true=>obtain⟨x,q,-,hkp,-⟩:=hX.2 h8;exact hkp.aE kb02
    refine Seq.val (ah.aB (g:=b0) (i:=0) rfl rfl Tryz.underlying227 rfl hb rfl) rfl rfl rfl (Seq.nil ?_);exact ai.aO rfl rfl rfl hpre rfl (fun _ _=>rfl) hX
   |1,ho=>
    injection ho with ho
    subst ho;intro σ S w hS hpre hdc hX
    have hb:aQ w b0 227 #[.pointer (some ⟨gt,0,none⟩)]:=by
     cases h8:S 8 with
     |false=>exact kb02.uT pw2.aE (hX.1 h8).fz (Nat.le_refl _)
     |true=>obtain⟨x,q,-,hkp,-⟩:=hX.2 h8;exact hkp.aE kb02
    refine Seq.val (ah.aB (g:=b0) (i:=0) rfl rfl Tryz.underlying227 rfl hb rfl) rfl rfl rfl (Seq.nil ?_);exact ai.aO rfl rfl rfl hpre rfl (fun _ _=>rfl) hX
   |2,ho=>
    injection ho with ho
    subst ho;intro σ S w hS hpre hdc hX;refine Seq.val (ah.nilCheck rfl rfl) rfl rfl rfl (Seq.nil ?_);exact ai.aO rfl rfl rfl hpre rfl (fun _ _=>rfl) hX
   |3,ho=>
    injection ho with ho
    subst ho;intro σ S w hS hpre hdc hX;refine Seq.val (ah.gL 2 rfl rfl Tryz.underlying71 rfl (by kernel_rfl)) rfl rfl rfl (Seq.nil ?_);exact ai.aO rfl rfl rfl hpre rfl (fun _ _=>rfl) hX
   |4,ho=>
    injection ho with ho
    subst ho;intro σ S w hS hpre hdc hX
    have h8:S 8=false:=by
     cases h8:S 8 with
     |false=>rfl
     |true=>have:=hdc 8 _ rfl h8 4 (aI rfl);rw[hS] at this;cases this
    refine Seq.val (ah.aB (g:=gt) (i:=2) rfl rfl Tryz.underlying68 rfl (kt2.fz (hX.1 h8).fz (by omega)) rfl) rfl rfl rfl (Seq.nil ?_);exact ai.aO rfl rfl rfl hpre rfl (fun _ _=>rfl) hX
   |5,ho=>
    injection ho with ho
    subst ho;intro σ S w hS hpre hdc hX
    have hb:aQ w b1 189 #[.pointer (some ⟨K.g,0,none⟩)]:=by
     cases h8:S 8 with
     |false=>exact kb12.uT pw2.aE (hX.1 h8).fz (Nat.le_refl _)
     |true=>obtain⟨x,q,-,hkp,-⟩:=hX.2 h8;exact hkp.aE kb12
    refine Seq.val (ah.aB (g:=b1) (i:=0) rfl rfl Tryz.underlying189 rfl hb rfl) rfl rfl rfl (Seq.nil ?_);exact ai.aO rfl rfl rfl hpre rfl (fun _ _=>rfl) hX
   |6,ho=>
    injection ho with ho
    subst ho;intro σ S w hS hpre hdc hX
    have h8:S 8=false:=by
     cases h8:S 8 with
     |false=>rfl
     |true=>have:=hdc 8 _ rfl h8 6 (aI rfl);rw[hS] at this;cases this
    have h7:S 7=false:=by
     cases h7:S 7 with
     |false=>rfl
     |true=>have:=hdc 7 _ rfl h7 6 (aI rfl);rw[hS] at this;cases this
    have hXa:=hX.1 h8;have hcl:=hcall w (hXa.pre hS) hXa.fz;rcases Rs.cB hne with ⟨q,ov,hr⟩|⟨x,q,hr⟩
    ·rw[hr] at hcl
     refine Seq.bZ (Ze Tryz.func151) rfl hcl ?_;rintro e w6 ⟨hf,rfl,d6,hp6⟩;refine⟨_,rfl,fun a ha=>⟨ha.defers,?_⟩⟩;rw[hr];exact⟨(fz2.trans ((hXa.fz.call hf).less hs2)).less hh,rfl,d6,hp6⟩
    ·rw[hr] at hcl
     refine Zc (Ze Tryz.func151) hcl ?_;rintro e w6 ⟨hf,v6,rfl,hp6,S6,hr6,hb6⟩;refine⟨_,rfl,Seq.nil ?_⟩;have hsz:=hXa.fz.size;refine ai.aO (σ:=σ) (σ':=(v6,S6,σ.2.2.1,σ.2.2.2)) rfl rfl rfl hpre rfl (fun j hj=> ?_) ⟨fun _=>⟨hXa.fz.call hf,(fun h=>by cases h),fun _=>⟨x,q,hr,hp6,hr6,fun b hb=>⟨by have:=(hb6 b hb).1;omega,(hb6 b hb).2⟩⟩,fun hm=> ?_⟩,fun hm=> ?_⟩
     ·match j,hj with
      |0,_=>rfl
      |1,_=>rfl
      |2,_=>rfl
      |3,_=>rfl
      |4,_=>rfl
      |5,_=>rfl
      |6,hj=>rw[hS] at hj;cases hj
      |7,hj=>rw[h7] at hj;cases hj
      |8,_=>rfl
      |j+9,_=>rfl
     ·have hm:S 7=true:=hm
      rw[h7] at hm;cases hm
     ·have hm:S 8=true:=hm
      rw[h8] at hm;cases hm
   |7,ho=>
    injection ho with ho
    subst ho;intro σ S w hS hpre hdc hX
    have h8:S 8=false:=by
     cases h8:S 8 with
     |false=>rfl
     |true=>have:=hdc 8 _ rfl h8 7 (aI rfl);rw[hS] at this;cases this
    have hXa:=hX.1 h8;obtain⟨x,q,q1,q2,q3,q4⟩:=hXa.post (hpre 6 (aI rfl));have hones:=q3.bE;refine Seq.slice (vs:=[σ.1]) (s:=4) rfl rfl rfl Tryz.underlying68 (by kernel_rfl) aP (by omega) (by omega) ⟨hones.1,trivial⟩ rfl rfl rfl ?_;intro g7 w' n7;refine Seq.nil ?_;have hsz:=hXa.fz.size;have hcells:(aU [σ.1]).toArray=σ.1.cells:=by simp[aU]
    have n7b:=n7.aE;rw[hcells] at n7b;refine ai.aO (σ:=σ) (σ':=(σ.1,σ.2.1,g7,σ.2.2.2)) rfl rfl rfl hpre rfl (fun j hj=> ?_) ⟨fun _=>⟨hXa.fz.step n7.below,fun h=>(hXa.pre h).step hle n7.below,fun h=> ?_,fun _=>⟨Nat.le_trans hsz n7.ge,n7b,fun h hb=> ?_⟩⟩,fun hm=> ?_⟩
    ·match j,hj with
     |0,_=>rfl
     |1,_=>rfl
     |2,_=>rfl
     |3,_=>rfl
     |4,_=>rfl
     |5,_=>rfl
     |6,_=>rfl
     |7,hj=>rw[hS] at hj;cases hj
     |8,_=>rfl
     |j+9,_=>rfl
    ·exact⟨x,q,q1,q2.step hle n7.below,q3.mono (fun _ h=>h) (fun a ha=>n7.below.cell (q4 _ ha).2),fun b hb=>⟨(q4 b hb).1,Nat.lt_of_lt_of_le (q4 b hb).2 n7.below.size⟩⟩
    ·exact Nat.lt_irrefl _ (Nat.lt_of_lt_of_le (q4 _ hb).2 n7.ge)
    ·have hm:S 8=true:=hm
     rw[h8] at hm;cases hm
   |8,ho=>
    injection ho with ho
    subst ho;intro σ S w hS hpre hdc hX;have hXa:=hX.1 hS;obtain⟨x,q,hr,pw3,hrep,haway⟩:=hXa.post (hpre 6 (aI rfl));obtain⟨e7,k7,hn7⟩:=hXa.new (hpre 7 (aI rfl));have hones:=hrep.bE;have hsz:=hXa.fz.size;have aq3:=aq2.fz hXa.fz hg0;have hown:=aq3.fE;have k90:=kt2.fz hXa.fz (by omega);refine Seq.kQ rfl rfl rfl Tryz.underlying68 (by kernel_rfl) aP rfl (by decide) (b:=56) (by kernel_rfl) hown (Reads.aE (size:=4) k7 1 hones.1) hones.2 (by omega) (by simp only[maxLen];omega) (by omega) rfl rfl rfl ?_;intro v' w4 hown' happ hv';refine Seq.nil ?_;have hs4:=happ.below.size
    have aq6:=aq3.zi hrep (fun b hb=>⟨by have:=(haway b hb).1;omega,(haway b hb).2,by have:=(haway b hb).1;omega,fun e=>by have:=(aq2.fE.bO b e).2;have:=(haway b hb).1;omega,fun e=>by have:=(aq2.iW.bO b e).2;have:=(haway b hb).1;omega⟩) hown' hs4
     (fun b _ h2 h3 h4=>happ.grown.block b h2 (fun e=>h4 e.symm)) (hv'.elim .inl fun e=> .inr ⟨_,e,Nat.le_refl _⟩) (by omega)
    refine ai.aO (σ:=σ) (σ':=(σ.1,σ.2.1,σ.2.2.1,v')) rfl rfl rfl hpre rfl (fun j hj=> ?_) ⟨(fun h=>by cases h),fun _=>⟨x,q,hr,((Kp.refl w2).fz pw2.aE hXa.fz).app hown happ,(hXa.fz.less hh2).trans (Fz.of happ.below),⟨pw3.aE.grown happ.grown (fun e=>by have:=hown.bO _ e.symm;omega),pw3.rd.below (happ.below.mono (by omega)),pw3.cG,pw3.dm⟩,k90.grown happ.grown (fun e=>aq3.wg e.symm),_,aq6⟩⟩
    match j,hj with
    |0,_=>rfl
    |1,_=>rfl
    |2,_=>rfl
    |3,_=>rfl
    |4,_=>rfl
    |5,_=>rfl
    |6,_=>rfl
    |7,_=>rfl
    |8,hj=>rw[hS] at hj;cases hj
    |j+9,_=>rfl
   |k+9,ho=>simp at ho
  ·rintro⟨v6,S6,g7,v8⟩ S w3 hS hX
   obtain⟨x,q,hr,kp3,fz3,pw3,k90,S',aq3⟩:=hX.2 (hS 8 (by decide));clear hX;dsimp only at aq3;have hs3:=fz3.size;have e90:h0≤gt:=hgt;have bel:Fz h0 K.g w w3:=(fz2.less hh).trans fz3;have kp:=kp2.trans kp3;have pwk:=pw3.aE;have hlt3:=k90.lt;rw[hr];obtain⟨AX,cX,hvX,-⟩:=aq3.fE.reads;subst hvX;refine Zv (ah.nilCheck rfl rfl) ?_;refine Zf 2 Tryz.underlying71 ?_;refine Zq k90 ?_;intro w1 pw1;replace bel:=bel.put k90 pw1 e90;replace kp:=kp.put k90 pw1 e90;replace aq3:=aq3.put k90 pw1 e90;replace k90:=pw1.aE;refine bV 0 1 3 ?_;have pw5:PW K w1 q d false:=⟨pwk.put pw1 (by omega),pw3.rd.below (pw1.below (by omega) hlt3),pw3.cG,pw3.dm⟩;refine ai.fq rfl (.inr rfl) ?_;exact⟨bel,_,rfl,pw5,kp,_,_,_,_,_,k90,aq3⟩
structure XB (K:Ctx)(h0 gt d q:Nat)(op z:Int)(nm:List Nat)(m:Nat)(base:List Value)(vE:Value)(gv cap:Nat)(v:Value)(set stored:Bool)(w2 W3 w:World):Prop where
 own:Own w h0 105 4 (.slice (some ⟨gv,0,none⟩) (m+1) cap) (m+1) (base++(bif set then v.cells.toList else [.int .i64 0, .int .i64 0, .string {data:= #[]}, .slice none 0 0]))
 box:aQ w gt 105 #[.int .i64 op, .int .i64 z, .string (strOf nm),bif stored then .slice (some ⟨gv,0,none⟩) (m+1) cap else vE]
 pw:PW K w q d false
 kp:Kp w2 w
 fz:Fz h0 K.g w2 w
 hs:W3.heap.size≤w.heap.size
 hb:∀b,b<W3.heap.size→b≠gt→vE.ownBlock≠some b→w.heap[b]? =W3.heap[b]?
 hv:some gv=vE.ownBlock∨gv=W3.heap.size
 ne:gv≠gt
theorem rz (K:Ctx)(hK:K.Ok)(h0 gt b1 d p:Nat)(op z:Int)(nm:List Nat)(es:List Ex)(evs:List Value)(vE:Value)(S0:Nat→Prop)(T:Nat→Nat→Rs Ex)(wa:World)(pw:PW K wa p d false)(hg0:K.g<h0)(hgt:h0≤gt)(hh:h0≤wa.heap.size)
  (kt:aQ wa gt 105 #[.int .i64 op, .int .i64 z, .string (strOf nm),vE]) (kb1:aQ wa b1 189 #[.pointer (some ⟨K.g,0,none⟩)]) (aq:dA wa h0 gt es [] evs [] vE (.slice none 0 0) S0) (hl:es.length≤10)
  (hc:∀W,PW K W p d false→Fz wa.heap.size K.g wa W→Calls Tryz.prog 151 #[.pointer (some ⟨K.g,0,none⟩), .int .i64 0] W (PR K W d (T p d) (xI W))) (hne:T p d≠ .out):
  Calls Tryz.prog 242 #[.pointer (some ⟨gt,0,none⟩), .pointer (some ⟨b1,0,none⟩)] wa (rF K h0 wa d (T p d) fun x _ W'=>Kp wa W'∧∃evs vE S,aQ W' gt 105 #[.int .i64 op, .int .i64 z, .string (strOf nm),vE]∧dA W' h0 gt (es++[x]) [] evs [] vE (.slice none 0 0) S):=by
 have hle:=hK.le;have hgg:K.g<wa.heap.size:=pw.aE.lt;have hgtl:gt<wa.heap.size:=kt.lt;obtain⟨AE,cE,rfl,-⟩:=aq.fE.reads;refine Zs 11 Tryz.func242 ?_;refine Cd.lV (σT:=Value × (Nat→Prop) × Nat × Nat × Nat × World) 11 (by kernel_rfl) rfl rfl (fun σ=>[.pointer (some ⟨gt,3,none⟩), .slice AE es.length cE, .pointer (some ⟨K.g,0,none⟩),σ.1, .int .i64 (es.length:Int), .slice (some ⟨σ.2.2.1,0,none⟩) 1 1, .slice (some ⟨σ.2.2.2.1,0,none⟩) (es.length+1) σ.2.2.2.2.1, .pointer (some ((⟨σ.2.2.2.1,0,none⟩:Addr).add (es.length*4))),undef, .pointer (some ⟨gt,3,none⟩),undef]) (fun σ S W=>(S 6=false→XA dH K wa p d (T p d) (S 3) (S 5) σ.2.1 σ.1 σ.2.2.1 105 #[.int .i64 0, .int .i64 0, .string {data:= #[]}, .slice none 0 0] W)∧(S 6=true→∃x q,T p d= .ok x q∧XA dH K wa p d (T p d) true true σ.2.1 σ.1 σ.2.2.1 105 #[.int .i64 0, .int .i64 0, .string {data:= #[]}, .slice none 0 0] σ.2.2.2.2.2∧XB K h0 gt d q op z nm es.length (aU evs) (.slice AE es.length cE) σ.2.2.2.1 σ.2.2.2.2.1 σ.1 (S 8) (S 10) wa σ.2.2.2.2.2 W)) ((undef,fun _=>False,0,0,0,wa)) ?_ ?_ ?_
 ·intro w0 hb0 hs0
  exact⟨fun _=>⟨Fz.of hb0,fun _=>pw.step hle hb0,fun h=>(by cases h),fun h=>(by cases h)⟩,fun h=>(by cases h)⟩
 ·intro k o ho
  match k,ho with
  |0,ho=>
   injection ho with ho
   subst ho;intro σ S w hS hpre hdc hX;refine Seq.val (ah.gL 3 rfl rfl Tryz.underlying105 rfl (by kernel_rfl)) rfl rfl rfl (Seq.nil ?_);exact ai.aO rfl rfl rfl hpre rfl (fun _ _=>rfl) hX
  |1,ho=>
   injection ho with ho
   subst ho;intro σ S w hS hpre hdc hX
   have h6:S 6=false:=by
    cases h6:S 6 with
    |false=>rfl
    |true=>have:=hdc 6 _ rfl h6 1 (aI rfl);rw[hS] at this;cases this
   refine Seq.val (ah.aB (g:=gt) (i:=3) rfl rfl Tryz.underlying68 rfl (kt.fz (hX.1 h6).fz (by omega)) rfl) rfl rfl rfl (Seq.nil ?_);exact ai.aO rfl rfl rfl hpre rfl (fun _ _=>rfl) hX
  |2,ho=>
   injection ho with ho
   subst ho;intro σ S w hS hpre hdc hX
   have hb:aQ w b1 189 #[.pointer (some ⟨K.g,0,none⟩)]:=by
    cases h6:S 6 with
    |false=>exact kb1.uT pw.aE (hX.1 h6).fz (Nat.le_refl _)
    |true=>obtain⟨x,q,-,-,hB⟩:=hX.2 h6;exact hB.kp.aE kb1
   refine Seq.val (ah.aB (g:=b1) (i:=0) rfl rfl Tryz.underlying189 rfl hb rfl) rfl rfl rfl (Seq.nil ?_);exact ai.aO rfl rfl rfl hpre rfl (fun _ _=>rfl) hX
  |3,ho=>
   injection ho with ho
   subst ho;intro σ S w hS hpre hdc hX
   have h6:S 6=false:=by
    cases h6:S 6 with
    |false=>rfl
    |true=>have:=hdc 6 _ rfl h6 3 (aI rfl);rw[hS] at this;cases this
   have hXa:=hX.1 h6;have hcl:=hc w (hXa.pre hS) hXa.fz;rcases Rs.cB hne with ⟨q,ov,hr⟩|⟨x,q,hr⟩
   ·rw[hr] at hcl
    refine Seq.bZ (Ze Tryz.func151) rfl hcl ?_;rintro e w6 ⟨hf,rfl,d6,hp6⟩;refine⟨_,rfl,fun a ha=>⟨ha.defers,?_⟩⟩;rw[hr];exact⟨(hXa.fz.call hf).less hh,rfl,d6,hp6⟩
   ·rw[hr] at hcl
    refine Zc (Ze Tryz.func151) hcl ?_;rintro e w6 ⟨hf,v6,rfl,hp6,S6,hr6,hb6⟩;refine⟨_,rfl,Seq.nil ?_⟩;have hsz:=hXa.fz.size;refine ai.aO (σ:=σ) (σ':=(v6,S6,σ.2.2)) rfl rfl rfl hpre rfl (fun j hj=> ?_) ⟨fun _=>⟨hXa.fz.call hf,(fun h=>by cases h),fun _=>⟨x,q,hr,hp6,hr6,fun b hb=>⟨by have:=(hb6 b hb).1;omega,(hb6 b hb).2⟩⟩,fun hm=> ?_⟩,fun hm=> ?_⟩
    ·match j,hj with
     |0,_=>rfl
     |1,_=>rfl
     |2,_=>rfl
     |3,hj=>rw[hS] at hj;cases hj
     |4,_=>rfl
     |5,_=>rfl
     |6,_=>rfl
     |7,_=>rfl
     |8,_=>rfl
     |9,_=>rfl
     |10,_=>rfl
     |j+11,_=>rfl
    ·obtain⟨m1,m2,-⟩:=hXa.new hm
     exact⟨m1,m2.fz hf (by omega),fun _ hb=>Nat.lt_irrefl _ (Nat.lt_of_lt_of_le m2.lt (hb6 _ hb).1)⟩
    ·have hm:S 6=true:=hm
     rw[h6] at hm;cases hm
  |4,ho=>
   injection ho with ho
   subst ho;intro σ S w hS hpre hdc hX;refine Seq.val (ah.len rfl rfl Tryz.underlying68) rfl rfl rfl (Seq.nil ?_);exact ai.aO rfl rfl rfl hpre rfl (fun _ _=>rfl) hX
  |5,ho=>
   injection ho with ho
   subst ho;intro σ S w hS hpre hdc hX
   have h6:S 6=false:=by
    cases h6:S 6 with
    |false=>rfl
    |true=>have:=hdc 6 _ rfl h6 5 (aI rfl);rw[hS] at this;cases this
   have hXa:=hX.1 h6;refine Seq.slice (vs:=[.agg #[.int .i64 0, .int .i64 0, .string {data:= #[]}, .slice none 0 0]]) (s:=4) rfl rfl rfl Tryz.underlying68 (by kernel_rfl) aP (by omega) (by omega) ⟨rfl,trivial⟩ rfl rfl rfl ?_;intro g7 wa' n7;refine Seq.nil ?_;have hsz:=hXa.fz.size;refine ai.aO (σ:=σ) (σ':=(σ.1,σ.2.1,g7,σ.2.2.2)) rfl rfl rfl hpre rfl (fun j hj=> ?_) ⟨fun _=>⟨hXa.fz.step n7.below,fun h=>(hXa.pre h).step hle n7.below,fun h=> ?_,fun _=>⟨Nat.le_trans hsz n7.ge,n7.aE,fun h hb=> ?_⟩⟩,fun hm=> ?_⟩
   ·match j,hj with
    |0,_=>rfl
    |1,_=>rfl
    |2,_=>rfl
    |3,_=>rfl
    |4,_=>rfl
    |5,hj=>rw[hS] at hj;cases hj
    |6,_=>rfl
    |7,_=>rfl
    |8,_=>rfl
    |9,_=>rfl
    |10,_=>rfl
    |j+11,_=>rfl
   ·obtain⟨x,q,q1,q2,q3,q4⟩:=hXa.post h
    exact⟨x,q,q1,q2.step hle n7.below,q3.mono (fun _ h=>h) (fun a ha=>n7.below.cell (q4 _ ha).2),fun b hb=>⟨(q4 b hb).1,Nat.lt_of_lt_of_le (q4 b hb).2 n7.below.size⟩⟩
   ·obtain⟨x,q,q1,q2,q3,q4⟩:=hXa.post h
    exact Nat.lt_irrefl _ (Nat.lt_of_lt_of_le (q4 _ hb).2 n7.ge)
   ·have hm:S 6=true:=hm
    rw[h6] at hm;cases hm
  |6,ho=>
   injection ho with ho
   subst ho;intro σ S w hS hpre hdc hX;have hXa0:=hX.1 hS;have d3:S 3=true:=hpre 3 (aI rfl);have d5:S 5=true:=hpre 5 (aI rfl);have hXa:XA dH K wa p d (T p d) true true σ.2.1 σ.1 σ.2.2.1 105 #[.int .i64 0, .int .i64 0, .string {data:= #[]}, .slice none 0 0] w:=by rw[d3,d5] at hXa0;exact hXa0
   obtain⟨x,q,hr,pw3,hrep,haway⟩:=hXa.post rfl;obtain⟨e7,k7,hn7⟩:=hXa.new rfl;have hsz:=hXa.fz.size;have aq3:=aq.fz hXa.fz hg0;have hown:=aq3.fE;have k90:=kt.fz hXa.fz (by omega);refine Seq.kQ rfl rfl rfl Tryz.underlying68 (by kernel_rfl) aP rfl (by decide) (b:=56) (by kernel_rfl) hown (Reads.aE (size:=4) k7 1 rfl) (by intro z hz;simp at hz;rcases hz with rfl|rfl|rfl|rfl<;>rfl) (by omega) (by simp only[maxLen];omega) (by omega) rfl rfl rfl ?_;intro v' w4 hown' happ hv';refine Seq.nil ?_;have hs4:=happ.below.size;have hlv:(aU evs).length=es.length*4:=hown.row.1;obtain⟨gv,cap,cur,rfl,-⟩:=Own.mu (n:=es.length) (xs:=aU evs) hown' hlv
   have hd8:S 8=false:=by
    cases h:S 8 with
    |false=>rfl
    |true=>have:=hdc 8 _ rfl h 6 (aI rfl);rw[hS] at this;cases this
   have hd10:S 10=false:=by
    cases h:S 10 with
    |false=>rfl
    |true=>have:=hdc 10 _ rfl h 6 (aI rfl);rw[hS] at this;cases this
   have hd7:S 7=false:=by
    cases h:S 7 with
    |false=>rfl
    |true=>have:=hdc 7 _ rfl h 6 (aI rfl);rw[hS] at this;cases this
   have hgvne:gv≠gt:=fun e=>by
    subst e;rcases hv' with e|e
    ·exact aq3.wg (by rw[←e];rfl)
    ·injection e with e
     have e:gv=w.heap.size:=e;have:=k90.lt;omega
   refine ai.aO (σ:=σ) (σ':=(σ.1,σ.2.1,σ.2.2.1,gv,cap,w)) rfl rfl rfl hpre rfl (fun j hj=> ?_) ⟨(fun h=>by cases h),fun _=>⟨x,q,hr,hXa,?_⟩⟩
   ·match j,hj with
    |0,_=>rfl
    |1,_=>rfl
    |2,_=>rfl
    |3,_=>rfl
    |4,_=>rfl
    |5,_=>rfl
    |6,hj=>rw[hS] at hj;cases hj
    |7,hj=>rw[hd7] at hj;cases hj
    |8,_=>rfl
    |9,_=>rfl
    |10,_=>rfl
    |j+11,_=>rfl
   ·have e8:fV S 6 8=false:=hd8
    have e10:fV S 6 10=false:=hd10;rw[e8,e10];exact⟨hown',k90.grown happ.grown (fun e=>aq3.wg e.symm),⟨pw3.aE.grown happ.grown (fun e=>by have:=hown.bO _ e.symm;omega),pw3.rd.below (happ.below.mono (by omega)),pw3.cG,pw3.dm⟩,((Kp.refl wa).fz pw.aE hXa.fz).app hown happ,(hXa.fz.less hh).trans (Fz.of happ.below),hs4,fun b h1 _ h3=>happ.grown.block b h1 (fun e=>h3 e.symm),hv'.elim (fun e=> .inl e) (fun e=> .inr (by injection e)),hgvne⟩
  |7,ho=>
   injection ho with ho
   subst ho;intro σ S w hS hpre hdc hX;refine Seq.val (ah.cJ rfl rfl rfl Tryz.underlying68 (s:=4) (by kernel_rfl) (j:=es.length) rfl (by omega)) rfl rfl rfl (Seq.nil ?_);exact ai.aO rfl rfl rfl hpre rfl (fun _ _=>rfl) hX
  |8,ho=>
   injection ho with ho
   subst ho;intro σ S w hS hpre hdc hX;obtain⟨x,q,hr,hXa,hB⟩:=hX.2 (hpre 6 (aI rfl));obtain⟨x',q',hr',hp',hrep,haway'⟩:=hXa.post rfl;have hones:=hrep.bE
   have hB8:Own w h0 105 4 (.slice (some ⟨σ.2.2.2.1,0,none⟩) (es.length+1) σ.2.2.2.2.1) (es.length+1) (aU evs++[.int .i64 0, .int .i64 0, .string {data:= #[]}, .slice none 0 0]):=by
    have:=hB.own;rw[hS] at this;exact this
   have hlv:(aU evs).length=es.length*4:=aq.fE.row.1;obtain⟨gv,cap,cur,hvv,hgv,hgvl,kv,hfit,hset⟩:=hB8.mu hlv;have hgv2:σ.2.2.2.1=gv:=by injection hvv with h1;injection h1 with h1;injection h1
   rw[←hgv2] at hgv hgvl kv hset;have haddr:(⟨σ.2.2.2.1,0,none⟩:Addr).add (es.length*4)=⟨σ.2.2.2.1,es.length*4,none⟩:=by unfold Addr.add;split<;>simp_all
   refine Seq.il (g:=σ.2.2.2.1) (off:=es.length*4) rfl (congrArg (fun a=>some (Value.pointer (some a))) haddr) rfl rfl (m:=4) (by kernel_rfl) hones.1 (gm hones.2) kv (by rw[hones.1];exact hfit) rfl rfl ?_;intro w6 p6;refine Seq.nil ?_;have hne:=hB.ne;have hsz:=hXa.fz.size;have hown6:=hset w6 σ.1.cells hones.1 p6;have hcv:cap=σ.2.2.2.2.1:=by injection hvv with _ _ h3;exact h3.symm
   refine ai.jx (σ:=σ) (σ':=σ) rfl rfl rfl (fun _ _=>rfl) ⟨(fun h=>by have h:S 6=false:=h;rw[hpre 6 (aI rfl)] at h;cases h),fun _=>⟨x,q,hr,hXa,?_⟩⟩
   exact⟨by have:=hown6;exact this,hB.box.put p6 (fun e=>hne e.symm),⟨hB.pw.aE.put p6 (by omega),hB.pw.rd.below (p6.below (by omega) hgvl),hB.pw.cG,hB.pw.dm⟩,hB.kp.put kv p6 hgv,hB.fz.put kv p6 hgv,Nat.le_trans hB.hs (Nat.le_of_eq p6.size.symm),fun b h1 h2 h3=>(p6.grown.block b (Nat.lt_of_lt_of_le h1 hB.hs) (fun e=>by
    injection e with e
    rcases hB.hv with e'|e'
    ·exact h3 (by rw[←e',e])
    ·omega)).trans (hB.hb b h1 h2 h3),hB.hv,hne⟩
  |9,ho=>
   injection ho with ho
   subst ho;intro σ S w hS hpre hdc hX;refine Seq.val (ah.gL 3 rfl rfl Tryz.underlying105 rfl (by kernel_rfl)) rfl rfl rfl (Seq.nil ?_);exact ai.aO rfl rfl rfl hpre rfl (fun _ _=>rfl) hX
  |10,ho=>
   injection ho with ho
   subst ho;intro σ S w hS hpre hdc hX;obtain⟨x,q,hr,hXa,hB⟩:=hX.2 (hpre 6 (aI rfl));have hbox:=hB.box;refine Zq hbox ?_;intro w6 p6;refine Seq.nil ?_;have hne:=hB.ne;have hown:=hB.own;refine ai.jx (σ:=σ) (σ':=σ) rfl rfl rfl (fun _ _=>rfl) ⟨(fun h=>by have h:S 6=false:=h;rw[hpre 6 (aI rfl)] at h;cases h),fun _=>⟨x,q,hr,hXa,?_⟩⟩
   exact⟨hown.iG (Nat.le_of_eq p6.size.symm) (fun b e=>p6.grown.block b (hown.bO b e).2 (fun e'=>by
    have e1:σ.2.2.2.1=b:=by injection e
    have e2:b=gt:=by injection e'
    exact hne (e1.trans e2))),p6.aE,⟨hB.pw.aE.put p6 (by omega),hB.pw.rd.below (p6.below (by omega) hbox.lt),hB.pw.cG,hB.pw.dm⟩,hB.kp.put hbox p6 hgt,hB.fz.put hbox p6 hgt,Nat.le_trans hB.hs (Nat.le_of_eq p6.size.symm),fun b h1 h2 h3=>(p6.grown.block b (Nat.lt_of_lt_of_le h1 hB.hs) (fun e=>h2 (by injection e))).trans (hB.hb b h1 h2 h3),hB.hv,hne⟩
  |k+11,ho=>simp at ho
 rintro⟨v5,S5,g7,gv,cap,W3⟩ S w9 hS hX;obtain⟨x,q,hr,hXa,hB⟩:=hX.2 (hS 6 (by decide));obtain⟨x',q',hr',-,hrep,haway⟩:=hXa.post rfl;rw[hr] at hr';injection hr' with e1 e2
 subst e1 e2;dsimp only at hrep haway hXa hB;rw[hS 8 (by decide),hS 10 (by decide)] at hB;have aq3:=aq.fz hXa.fz hg0;have hsz:=hXa.fz.size;rw[hr]
 have hfin:=aq3.zi hrep (fun b hb=>⟨by have:=(haway b hb).1;omega,(haway b hb).2,by have:=(haway b hb).1;omega,fun e=>by have:=(aq.fE.bO b e).2;have:=(haway b hb).1;omega,fun e=>by cases e⟩) hB.own hB.hs
  (fun b _ h2 h3 h4=>hB.hb b h2 h3 h4) (hB.hv.elim .inl fun e=> .inr ⟨_,rfl,Nat.le_of_eq e.symm⟩) (by omega)
 refine eh 0 1 ?_;refine ai.fq rfl (.inr rfl) ?_;exact⟨hB.fz,_,rfl,hB.pw,hB.kp,_,_,_,hB.box,hfin⟩
section
variable {W:World} {h gt:Nat} {es:List Ex} {ts:List Tm} {evs tvs:List Value} {vE vT:Value} {S:Nat→Prop}
theorem Own.rows {B n size:Nat}{e:TypeId}{v:Value}{xs:List Value}{S':Nat→Prop}(o:Own W B e size v n xs)(hS:∀b,v.ownBlock=some b→S' b):∃A c,v= .slice A n c∧Rows W S' A xs:=by
 obtain⟨h1,⟨rfl,rfl⟩|⟨g,cap,cur,rfl,e2,e3,e4,e5,e6,e7⟩⟩:=o.row
 ·refine⟨none,0,rfl,fun hne=> ?_⟩
  rw[Nat.zero_mul] at h1;exact absurd (List.eq_nil_of_length_eq_zero h1) hne
 ·obtain⟨A,c,hv,hr⟩:=o.reads
  injection hv with e1 _ _
  subst e1;refine⟨_,cap,rfl,fun hne=> ?_⟩;rcases Nat.eq_zero_or_pos n with h0|h0
  ·subst h0
   rw[Nat.zero_mul] at h1;exact absurd (List.eq_nil_of_length_eq_zero h1) hne
  ·obtain⟨ad,hA,hb,hc⟩:=hr.2 h0
   injection hA with hA
   subst hA;exact⟨_,rfl,hS _ rfl,hc⟩
def oW (S:Nat→Prop)(vE vT:Value)(b:Nat):Prop:=S b∨vE.ownBlock=some b∨vT.ownBlock=some b
theorem dA.bounds (a:dA W h gt es ts evs tvs vE vT S):∀b,oW S vE vT b→h≤b∧b<W.heap.size∧b≠gt:=fun b hb=>by
 rcases hb with hb|hb|hb
 ·obtain⟨h1,h2,h3,-,-⟩:=a.vv b hb
  exact⟨h1,h2,h3⟩
 ·obtain⟨h1,h2⟩:=a.fE.bO b hb
  exact⟨h1,h2,fun e=>a.wg (by rw[hb,e])⟩
 ·obtain⟨h1,h2⟩:=a.iW.bO b hb
  exact⟨h1,h2,fun e=>a.yw (by rw[hb,e])⟩
theorem dA.ex (a:dA W h gt es ts evs tvs vE vT S)(op z:Int)(nm:List Nat)(h1:bM op)(h2:bM z)(h3:∀d∈nm,d<256)(h4:nm.length≤9223372036854775807)(hl:es.length≤1000):dH W (oW S vE vT) (.mk op z nm es) (.agg #[.int .i64 op, .int .i64 z, .string (strOf nm),vE]):=by
 obtain⟨A,c,hv,hr⟩:=a.fE.rows (S':=oW S vE vT) (fun b hb=> .inr (.inl hb));rw[hv];rw[hv] at hr a;exact dH.mk a.qQ hl h1 h2 h3 h4 (fun i e v e1 e2=>(a.xF i e v e1 e2).mono (fun _ h=> .inl h) (fun _ _=>rfl)) hr
theorem dA.tm (a:dA W h gt es ts evs tvs vE vT S)(op:Int)(nm:List Nat)(h1:bM op)(h3:∀d∈nm,d<256)(h4:nm.length≤9223372036854775807)(hl:es.length≤1000)(hl':ts.length≤1000):dW W (oW S vE vT) (.mk op nm es ts) (.agg #[.int .i64 op, .string (strOf nm),vE,vT]):=by
 obtain⟨A,c,hv,hr⟩:=a.fE.rows (S':=oW S vE vT) (fun b hb=> .inr (.inl hb));obtain⟨A',c',hv',hr'⟩:=a.iW.rows (S':=oW S vE vT) (fun b hb=> .inr (.inr hb));rw[hv,hv'];rw[hv,hv'] at hr hr' a;exact dW.mk a.qQ a.ti hl hl' h1 h3 h4 (fun i e v e1 e2=>(a.xF i e v e1 e2).mono (fun _ h=> .inl h) (fun _ _=>rfl)) (fun i e v e1 e2=>(a.xY i e v e1 e2).mono (fun _ h=> .inl h) (fun _ _=>rfl)) hr hr'
end
theorem dA.nil (W:World)(h gt:Nat):dA W h gt [] [] [] [] (.slice none 0 0) (.slice none 0 0) (fun _=>False):=
 ⟨rfl,rfl,Own.nil _ _ _ _,Own.nil _ _ _ _,fun i e v h1=>by simp at h1,fun i e v h1=>by simp at h1,fun b h=>h.elim,(by intro h;cases h),(by intro h;cases h)⟩
theorem vi:∀args w,(callFunc 242 args).run Tryz.prog w= .ok (.enter 242 args) w:=fun args w=>bc Tryz.func242 (by kernel_rfl) rfl args w
theorem dv:cv Tryz.prog 1=some (some .nilFunc):=by kernel_rfl
theorem jW (a:Int)(w:World):(Instr.build 105 #[(0, .int .i64 a)]).run Tryz.prog w= .ok (.agg #[.int .i64 a, .int .i64 0, .string (strOf []), .slice none 0 0]) w:=by
 have hu:=Tryz.underlying105
 go_simp
 rfl
theorem nb {α:Type}(ws:List Wd):∀(bE:List (Nat→Nat→Rs α)) (first:Bool) (p d:Nat) (xs:List α) (q:Nat),cH ws bE first p d= .ok xs q→xs.length=bE.length
 | [],_,p,d,xs,q,h=>by
  unfold cH at h;injection h with h
  rw[←h];rfl
 |one::r,first,p,d,xs,q,h=>by
  rw[jo] at h
  cases h1:(if first=true then Rs.ok () p else er ws [44] p) with
  |out=>rw[h1] at h;cases h
  |bad a b=>rw[h1] at h;cases h
  |ok u p1=>
   rw[h1,Rs.fg] at h
   cases h2:one p1 d with
   |out=>rw[h2] at h;cases h
   |bad a b=>rw[h2] at h;cases h
   |ok x p2=>
    rw[h2,Rs.fg] at h
    cases h3:cH ws r false p2 d with
    |out=>rw[h3] at h;cases h
    |bad a b=>rw[h3] at h;cases h
    |ok ys p3=>
     rw[h3,Rs.fg] at h;injection h with h _
     rw[←h,List.length_cons,List.length_cons,nb ws r false p2 d ys p3 h3]
theorem gA {α:Type}{ws:List Wd}{bE:List (Nat→Nat→Rs α)}{p d:Nat}{xs:List α}{q:Nat}(h:cq ws bE p d= .ok xs q):xs.length=bE.length:=by
 unfold cq at h
 cases h1:er ws [40] p with
 |out=>rw[h1] at h;cases h
 |bad a b=>rw[h1] at h;cases h
 |ok u p1=>
  rw[h1,Rs.fg] at h
  cases h2:ey p1 d with
  |out=>rw[h2] at h;cases h
  |bad a b=>rw[h2] at h;cases h
  |ok u p2=>
   rw[h2,Rs.fg] at h
   cases h3:cH ws bE true p2 (d+1) with
   |out=>rw[h3] at h;cases h
   |bad a b=>rw[h3] at h;cases h
   |ok ys p3=>
    rw[h3,Rs.fg] at h
    cases h4:er ws [41] p3 with
    |out=>rw[h4] at h;cases h
    |bad a b=>rw[h4] at h;cases h
    |ok u p4=>
     rw[h4,Rs.fg] at h;injection h with h _
     rw[←h];exact nb ws bE true p2 (d+1) ys p3 h3
theorem Kp.own {w W:World}{B n size:Nat}{e:TypeId}{v:Value}{xs:List Value}(a:Kp w W)(o:Own w B e size v n xs)(h1:e≠71:=by decide)(h2:e≠105:=by decide)(h3:e≠219:=by decide):Own W B e size v n xs:=by
 obtain⟨r1,⟨r2,r3⟩|⟨g,cap,cur,rfl,e2,e3,e4⟩⟩:=o.row
 ·exact⟨r1, .inl ⟨r2,r3⟩⟩
 ·exact⟨r1, .inr ⟨g,cap,cur,rfl,e2,a.dD g e cur e3 h1 h2 h3,e4⟩⟩
def yR (K:Ctx)(E0:Nat→Nat→Rs Ex):Prop:=∀p d W,PW K W p d false→E0 p d≠ .out→Calls Tryz.prog 151 #[.pointer (some ⟨K.g,0,none⟩), .int .i64 0] W (PR K W d (E0 p d) (xI W))
theorem ka (K:Ctx)(hK:K.Ok)(E0:Nat→Nat→Rs Ex)(hE:yR K E0)(op:Int)(k p d:Nat)(w:World)(pw:PW K w p d false)(hp:p+1≤K.ws.length)(hop:bM op)(hk:k≤3)(hne:dK K.ws E0 op k p d≠ .out):
  Calls Tryz.prog 237 #[.pointer (some ⟨K.g,0,none⟩), .int .i64 op, .int .i64 (k:Int)] w (PR K w d (dK K.ws E0 op k p d) (xI w)):=by
 have bel:=Fz.refl w.heap.size K.g w;have k99:=pw.aE;have e99:K.g=K.g:=rfl;have hlt:=pw.aE.lt;have hlen:=hK.len;have hle:=hK.le;refine Zs 30 Tryz.func237 ?_;refine aw ?_;refine Seq.box rfl rfl rfl rfl rfl ?_;intro g3 w1 n3;have e3:=Nat.le_trans bel.size n3.ge;have l3:=Nat.lt_of_lt_of_le k99.lt n3.ge;replace bel:=bel.step n3.below;replace k99:=k99.step n3.below;have k3:=n3.aE;refine Zl aP ?_;intro g6 w2 n6;have e6:=Nat.le_trans bel.size n6.ge;have l6:=Nat.lt_of_lt_of_le k3.lt n6.ge;replace bel:=bel.step n6.below;replace k99:=k99.step n6.below;replace k3:=k3.step n6.below;have k6:=n6.aE;refine br 0 1 2 3 6 (aN ?_);refine ZL Tryz.underlying189 k3 ?_;refine Zv (ah.nilCheck rfl rfl) ?_;refine Zf 1 Tryz.underlying219 ?_;refine ZL Tryz.underlying3 k99 ?_;refine eS ?_;refine Zv (ah.nilCheck rfl rfl) ?_;refine Zf 1 Tryz.underlying219 ?_;refine Zq k99 ?_;intro w3 pw3;replace bel:=bel.put k99 pw3 e99;replace k3:=k3.put pw3 (by omega);replace k6:=k6.put pw3 (by omega);replace k99:=pw3.aE;refine br 0 1 2 3 6 (aN ?_);refine Zm ?_;refine Zv (ah.build rfl rfl (jW op _)) ?_;refine Zl aP ?_;intro g7 w4 n7;have e7:=Nat.le_trans bel.size n7.ge;have l7:=Nat.lt_of_lt_of_le k6.lt n7.ge;replace bel:=bel.step n7.below;replace k99:=k99.step n7.below;replace k3:=k3.step n7.below;replace k6:=k6.step n7.below;have k7:=n7.aE;refine Zo 4 k7 ?_;intro w5 pw5;replace bel:=bel.put k7 pw5 e7;replace k99:=k99.put pw5 (by omega);replace k3:=k3.put pw5 (by omega);replace k6:=k6.put pw5 (by omega);replace k7:=pw5.aE;refine cg 0 1 2 3 6 7 (aN ?_);refine Za ?_;refine bU 0 1 2 3 6 7 8 (bo (aw ?_));refine Zm ?_;refine Zm ?_;refine eP 0 1 2 3 6 7 8 18 19 (Zt (Cd.block ?_));have pwl:=pw.next hle hp bel k99;obtain⟨wl,hwl⟩:∃wl,wl=w5:=⟨_,rfl⟩;rw[←hwl] at pwl bel k3 k6 k7 k99⊢;have bel0:=bel;have l37:g3<g7:=by omega
 have hgg7:K.g<g7:=by omega
 have hs0:=bel.size;replace bel:=Below.refl wl.heap.size wl;refine Cd.loop (σ:=Nat × Value) (fun s=>[(3, .pointer (some ⟨g3,0,none⟩)),(6, .pointer (some ⟨g6,0,none⟩)),(7, .pointer (some ⟨g7,0,none⟩)),(8,s.2),(18, .int .i64 (k:Int)),(19, .int .i64 (s.1:Int))]) (fun s wr=>s.1≤k∧Below wl.heap.size wl wr∧Own wr wl.heap.size 1 1 s.2 s.1 (List.replicate s.1 (.func (.func 242) #[] #[.pointer (some ⟨g7,0,none⟩), .pointer (some ⟨g3,0,none⟩)]))) (fun s=>k-s.1) (0, .slice none 0 0) ⟨Nat.zero_le _,bel,Own.nil _ _ _ _⟩ ⟨rfl,rfl,rfl,rfl,rfl,rfl,trivial⟩ ?_;clear bel;rintro⟨i,v⟩ wr ⟨hi,bel,own⟩;dsimp only at hi own⊢;refine aw ?_;refine jb ?_;refine bU 3 6 7 8 18 19 20 (bo ?_);refine Cd.aF rfl (fun hc=> ?_) (fun hc=> ?_)
 ·skip
  refine Cd.skip (bo (Cd.block (Zr ?_)));refine Zm ?_;refine Zv (ah.makeFunc (v:= .func (.func 242) #[] #[.pointer (some ⟨g7,0,none⟩), .pointer (some ⟨g3,0,none⟩)]) rfl (show gx _ _=some [] from rfl) (show gx _ _=some [.pointer (some ⟨g7,0,none⟩), .pointer (some ⟨g3,0,none⟩)] from rfl) rfl) ?_;refine Seq.slice (vs:=[_]) (s:=1) rfl rfl rfl Tryz.underlying225 (by kernel_rfl) (dv) (by omega) (by omega) ⟨rfl,trivial⟩ rfl rfl rfl ?_;intro g23 w6 n23;have e23:=Nat.le_trans bel.size n23.ge;replace bel:=bel.step n23.below;replace own:=own.step n23.below;have k23:=n23.aE;refine Seq.append rfl rfl rfl Tryz.underlying225 (by kernel_rfl) dv rfl (by decide) (b:=8) (by kernel_rfl) own (Reads.aE k23 1 rfl) (by intro x hx;simp[aU,Value.cells] at hx;rw[hx];rfl) bel.size (by simp only[maxLen];omega) (by omega) rfl rfl rfl ?_;clear own;intro vw7 w7 own haw7;replace bel:=bel.trans haw7.below;refine Za ?_;refine bU 3 6 7 8 18 19 20 (ai.av (jw ?_));refine eS ?_;refine Zm ?_;refine bU 3 6 7 8 18 19 20 ?_;refine ai.round (i+1,_) ⟨rfl,rfl,rfl,rfl,rfl,rfl,trivial⟩ ⟨by dsimp only;omega,bel,?_⟩ (by dsimp only;omega);dsimp only;rw[List.replicate_succ'];exact own
 obtain rfl:i=k:=by omega
 have pw9:=pwl.step hle bel;replace k3:=k3.step bel;replace k6:=k6.step bel;replace k7:=k7.step bel;obtain⟨AP,cP,rfl,-⟩:=own.reads;have hsr:=bel.size;obtain⟨R,hR⟩:∃R,R=cq K.ws (List.replicate i E0) (p+1) d:=⟨_,rfl⟩;have hcd:dK K.ws E0 op i p d=R.bind fun xs p=> .ok (.mk op 0 [] xs) p:=by rw[hR];rfl
 have hneR:R≠ .out:=Rs.ew (by rw[←hcd];exact hne);have hfl:(List.replicate i (242,[Value.pointer (some ⟨g7,0,none⟩),Value.pointer (some ⟨g3,0,none⟩)])).length=i:=List.length_replicate
 have hrepl:∀ {β:Type} {x y:β} {j:Nat},(List.replicate i x)[j]? =some y→y=x∧j<i:=fun {β x y j} h=>by
  have h1:=(List.getElem?_eq_some_iff.1 h).1;rw[List.length_replicate] at h1;rw[List.getElem?_replicate,if_pos h1] at h;injection h with h
  exact⟨h.symm,h1⟩
 have hwi:=iA K hK g7 (List.replicate i E0) (List.replicate i (242,[Value.pointer (some ⟨g7,0,none⟩),Value.pointer (some ⟨g3,0,none⟩)])) AP cP
  (fun xs W=>Kp wr W∧∃evs vE S,aQ W g7 105 #[.int .i64 op, .int .i64 0, .string (strOf []),vE]∧dA W g7 g7 xs [] evs [] vE (.slice none 0 0) S) (p+1) d wr pw9 (by have:=k7.lt;omega) (by rw[List.length_replicate,List.length_replicate]) (by rw[List.length_replicate];omega)
  ⟨Kp.refl wr,[],_,_,k7,dA.nil wr g7 g7⟩
  (fun xs W W' p d hM hp hf=>by
   obtain⟨kp,evs,vE,S,kt,aq⟩:=hM;exact⟨kp.fz hp.aE hf,evs,vE,S,kt.fz hf (by omega),aq.fz hf hgg7⟩)
  (fun xs W j f cp hM hj=>by
   obtain⟨kp,-⟩:=hM;obtain⟨e1,hji⟩:=hrepl hj;injection e1 with e1 e2
   subst e1 e2;obtain⟨A',c',hv,hr⟩:=(kp.own own).reads;injection hv with hv _ _
   subst hv;obtain⟨ad,hA,-,hc⟩:=hr.2 (by omega);exact⟨ad,hA,hc j _ (by rw[List.getElem?_replicate,if_pos hji])⟩)
  (fun j f cp hj=>by
   obtain⟨e1,-⟩:=hrepl hj;injection e1 with e1 e2
   subst e1;exact vi)
  (fun j f cp one hj ho xs W p' hxl hpw hW hM hne1=>by
   obtain⟨e1,hji⟩:=hrepl hj;injection e1 with e1 e2
   subst e1 e2;obtain⟨e3,-⟩:=hrepl ho;subst e3;obtain⟨kp,evs,vE,S,kt,aq⟩:=hM;exact(rz K hK g7 g7 g3 (d+1) p' op 0 [] xs evs vE S one W hpw hgg7 (Nat.le_refl _) hW kt (kp.aE k3) aq (by omega) (fun W' h1 _=>hE p' (d+1) W' h1 hne1) hne1).mono fun e W' hq=>hq.mono fun a v W' h=>⟨kp.trans h.1,h.2⟩)
  (by rw[←hR];exact hneR)
 rw[←hR,hfl] at hwi;have e0:Fz w.heap.size K.g w wr:=bel0.step bel;refine Cd.exit (ai.bj (ai.aW (ai.aY (aN ?_))));refine ZL Tryz.underlying189 k3 ?_;refine Zm ?_;rcases Rs.cB hneR with ⟨q,ov,hr⟩|⟨xs,q,hr⟩
 ·rw[hr] at hwi hcd
  refine Seq.bZ (Ze Tryz.func166) rfl hwi ?_;rintro e w6 ⟨hf,rfl,d6,hp6⟩;refine⟨_,rfl,fun a ha=>⟨ha.defers,?_⟩⟩;rw[hcd];exact⟨e0.trans (hf.less (by omega)),rfl,d6,hp6⟩
 rw[hr] at hwi hcd;replace hcd:dK K.ws E0 op i p d= .ok (.mk op 0 [] xs) q:=hcd;have k6lt:g6<g7:=by omega
 refine Zc (Ze Tryz.func166) (hwi) ?_;rintro e wq ⟨hf,v6,rfl,pwq,kp6,evs,vE,S,kt6,aq6⟩;refine⟨_,rfl,?_⟩
 have k66:aQ wq g6 105 #[.int .i64 0, .int .i64 0, .string {data:= #[]}, .slice none 0 0]:=by
  have k6:aQ wr g6 105 #[.int .i64 0, .int .i64 0, .string {data:= #[]}, .slice none 0 0]:=k6;have h1:=hf.block g6 k6lt (by omega);unfold aQ at k6⊢;rw[h1];exact k6
 have e1:Fz w.heap.size K.g w wq:=e0.trans (hf.less (by omega));clear hwi;obtain⟨AX,cX,hvX,-⟩:=aq6.fE.reads;subst hvX;clear k6 k7 bel bel0 k3;have k6:=k66;have k7:=kt6;have bel:=e1
 have hxl:xs.length=i:=by
  have:=gA (hR.symm.trans hr);rw[List.length_replicate] at this;exact this
 have e6:w.heap.size≤g6:=by omega
 have hrx:=aq6.ex op 0 [] hop (by unfold bM;omega) (by simp) (by simp) (by omega);have hbn:=aq6.bounds;have hlq:=k6.lt;refine bU 3 6 7 8 18 19 20 (aN ?_);refine ZW 4 Tryz.underlying105 k7 ?_;refine Zo 4 k6 ?_;intro w6 pw6;replace bel:=bel.put k6 pw6 e6;replace k7:=k7.put pw6 (by omega);replace k6:=pw6.aE;refine bU 3 6 7 8 18 19 20 (Zt (Cd.ret ?_));refine jy 4 k6 Tryz.underlying105 ?_;rw[hcd];have hsz:=pw6.size;refine⟨bel,_,rfl,⟨pwq.aE.put pw6 (by omega),pwq.rd.below (pw6.below (by omega) hlq),pwq.cG,pwq.dm⟩,_,hrx.mono (fun _ h=>h) (fun a ha=>World.cell?_of_block (pw6.grown.block _ (hbn _ ha).2.1 (fun e=>by injection e with e;have:=(hbn _ ha).1;omega))),fun b hb=> ?_⟩;obtain⟨h1,h2,-⟩:=hbn b hb;exact⟨by omega,by omega⟩
theorem kW.all {w w':World}{g m:Nat}{T:TypeId}{cs vc:Array Value}(p:kW w w' g T (cs.toList.take 0++(vc.toList++cs.toList.drop (0+vc.size))).toArray)(h1:vc.size=m)(h2:cs.size=m):aQ w' g T vc:=by
 have hcells:(cs.toList.take 0++(vc.toList++cs.toList.drop (0+vc.size))).toArray=vc:=by
  have:cs.toList.drop (0+vc.size)=[]:=List.drop_of_length_le (by rw[h1];simp[h2]);rw[this];simp
 have:=p.aE
 rwa [hcells] at this
theorem PW.to {K:Ctx}{w W:World}{p d:Nat}{ov:Bool}(h:PW K w p d ov)(hK:K.B≤K.g)(bel:Fz w.heap.size K.g w W)(hb:aQ W K.g 219 #[.slice K.A K.ws.length K.c, .int .i64 (p:Int), .int .i64 (d:Int), .bool ov, .int .i64 (K.en:Int)]):PW K W p d ov:=
 ⟨hb,h.rd.below (bel.below (by have:=h.aE.lt;omega) hK),h.cG,h.dm⟩
theorem yC:∀args w,(callFunc 238 args).run Tryz.prog w= .ok (.enter 238 args) w:=fun args w=>bc Tryz.func238 (by kernel_rfl) rfl args w
theorem pO (a:Int)(s:List Nat)(w:World):(Instr.build 105 #[(0, .int .i64 a),(2, .string (strOf s))]).run Tryz.prog w= .ok (.agg #[.int .i64 a, .int .i64 0, .string (strOf s), .slice none 0 0]) w:=by
 have hu:=Tryz.underlying105
 go_simp
def uV (h g:Nat)(xs:List Ex)(W:World):Prop:=∃cs,aQ W g 105 cs∧cs.size=4∧∀x,xs[0]? =some x→∃(S:Nat→Prop) (v:Value),cs=v.cells∧dH W S x v∧∀b,S b→h≤b∧b<W.heap.size∧b≠g
theorem uV.fz {h g q:Nat}{xs:List Ex}{W W':World}(m:uV h g xs W)(f:Fz W.heap.size q W W')(hq:q<h)(hg:h≤g):uV h g xs W':=by
 obtain⟨cs,h1,h2,h3⟩:=m;refine⟨cs,h1.fz f (by omega),h2,fun x hx=> ?_⟩;obtain⟨S,v,e1,e2,e3⟩:=h3 x hx;refine⟨S,v,e1,e2.mono (fun _ h=>h) (fun a ha=>World.cell?_of_block (f.block _ (e3 _ ha).2.1 (by have:=(e3 _ ha).1;omega))),fun b hb=> ?_⟩;obtain⟨b1,b2,b3⟩:=e3 b hb;exact⟨b1,Nat.lt_of_lt_of_le b2 f.size,b3⟩
theorem uk (K:Ctx)(hK:K.Ok)(h0 b1 gt d p:Nat)(T:Nat→Nat→Rs Ex)(w:World)(pw:PW K w p d false)(hg0:K.g<h0)(hgt:h0≤gt)(hh:h0≤w.heap.size)(kb1:aQ w b1 189 #[.pointer (some ⟨K.g,0,none⟩)]) (kt:uV h0 gt [] w)
  (hc:∀W,PW K W p d false→Fz w.heap.size K.g w W→Calls Tryz.prog 151 #[.pointer (some ⟨K.g,0,none⟩), .int .i64 0] W (PR K W d (T p d) (xI W))) (hne:T p d≠ .out):
  Calls Tryz.prog 238 #[.pointer (some ⟨b1,0,none⟩), .pointer (some ⟨gt,0,none⟩)] w (rF K h0 w d (T p d) fun x _ W'=>Kp w W'∧uV h0 gt [x] W'):=by
 have hle:=hK.le;have bel:=Fz.refl w.heap.size K.g w;have k1:=kb1;have hcl:=hc w pw bel;refine Zs 4 Tryz.func238 ?_;refine Zr ?_;refine ZL Tryz.underlying189 k1 ?_;rcases Rs.cB hne with ⟨q,ov,hr⟩|⟨x,q,hr⟩
 ·rw[hr] at hcl
  refine Seq.bZ (Ze Tryz.func151) rfl hcl ?_;rintro e w6 ⟨hf,rfl,d6,hp6⟩;refine⟨_,rfl,fun a ha=>⟨ha.defers,?_⟩⟩;rw[hr];exact⟨hf.less hh,rfl,d6,hp6⟩
 rw[hr] at hcl⊢;refine Zc (Ze Tryz.func151) (hcl) ?_;rintro e wq ⟨hf,v6,rfl,pwq,S,hrep,hb⟩;refine⟨_,rfl,?_⟩;obtain⟨cs,h1,h2,-⟩:=kt;have kq:=h1.fz hf (by omega);have hones:=hrep.bE;have hlt:=h1.lt;refine Seq.il rfl rfl rfl rfl (m:=4) (by kernel_rfl) hones.1 (gm hones.2) kq (by rw[hones.1,h2];omega) rfl rfl ?_;intro w7 p7;refine eh 0 1 ?_;refine ai.fq rfl (.inr rfl) ?_;have hs:=p7.size
 have hcells:(cs.toList.take 0++(v6.cells.toList++cs.toList.drop (0+v6.cells.size))).toArray=v6.cells:=by
  have:cs.toList.drop (0+v6.cells.size)=[]:=List.drop_of_length_le (by rw[hones.1];simp[h2]);rw[this];simp
 have kb:=p7.aE;rw[hcells] at kb;refine⟨(hf.less hh).trans ((Fz.refl h0 K.g wq).put kq p7 hgt),_,rfl,⟨pwq.aE.put p7 (by omega),pwq.rd.below (p7.below (by omega) kq.lt),pwq.cG,pwq.dm⟩,((Kp.refl w).fz pw.aE hf).put kq p7 hgt,_,kb,hones.1,fun y hy=> ?_⟩;simp at hy;subst hy;exact⟨S,v6,rfl,hrep.mono (fun _ h=>h) (fun a ha=>World.cell?_of_block (p7.grown.block _ (hb _ ha).2 (fun e=>by injection e with e;have:=(hb _ ha).1;omega))),fun b hb'=>⟨by have:=(hb b hb').1;omega,by have:=(hb b hb').2;omega,by have:=(hb b hb').1;omega⟩⟩
theorem wN (K:Ctx)(hK:K.Ok)(E0:Nat→Nat→Rs Ex)(hE:yR K E0)(p d:Nat)(w:World)(pw:PW K w p d false)(hne:iS K.ws E0 p d≠ .out):
  Calls Tryz.prog 222 #[.pointer (some ⟨K.g,0,none⟩)] w (PR K w d (iS K.ws E0 p d) (xI w)):=by
 have bel:=Fz.refl w.heap.size K.g w;have k99:=pw.aE;have e99:K.g=K.g:=rfl;have hlt:=pw.aE.lt;have hlen:=hK.len;have hle:=hK.le;have hpl:=pw.cG;obtain⟨a1,a2,a3,a4,a5⟩:=hK.at_ p;obtain⟨b1,b2,b3⟩:=K.jM p;have hw:=fun W h=>fv K hK p d false W h;unfold zO at hw
 have hq:iS K.ws E0 p d=if(K.at_ p).kind=1 then .ok (.mk 1 (K.at_ p).n [] []) (p+1) else if(K.at_ p).kind=2 then .ok (.mk 2 (K.at_ p).n [] []) (p+1) else if(K.at_ p).kind=3 then
   if(K.at_ p).text=zk then .ok (.mk 4 0 [] []) (p+1) else if(K.at_ p).text=zx then dK K.ws E0 9 2 p d else if(K.at_ p).text=zu then dK K.ws E0 10 2 p d else if(K.at_ p).text=AF then dK K.ws E0 21 3 p d else(eV K.ws p).bind fun nm p=> .ok (.mk 3 0 nm []) p
  else if(K.at_ p).kind=0 then(cq K.ws [E0] p d).bind fun xs p=> .ok (xs.getD 0 (.mk 0 0 [] [])) p else .bad p false:=by rw[b1,b2,b3];rfl
 have hp:(K.at_ p).kind≠ -1→p+1≤K.ws.length:=fun hk=>by
  rcases Nat.lt_or_ge p K.ws.length with h|h
  ·exact h
  ·exact absurd (by unfold Ctx.at_;rw[List.getD_eq_getElem?_getD,List.getElem?_eq_none h];rfl) hk
 refine Zs 58 Tryz.func222 ?_;refine aw ?_;refine Seq.box rfl rfl rfl rfl rfl ?_;intro g1 w1 n1;have e1:=Nat.le_trans bel.size n1.ge;have l1:=Nat.lt_of_lt_of_le k99.lt n1.ge;replace bel:=bel.step n1.below;replace k99:=k99.step n1.below;have k1:=n1.aE;refine Zl aP ?_;intro g2 w2 n2;have e2:=Nat.le_trans bel.size n2.ge;have l2:=Nat.lt_of_lt_of_le k1.lt n2.ge;replace bel:=bel.step n2.below;replace k99:=k99.step n2.below;replace k1:=k1.step n2.below;have k2:=n2.aE;refine bV 0 1 2 (aN ?_);refine ZL Tryz.underlying189 k1 ?_;refine Zc (Ze Tryz.func164) (hw _ (pw.to hle bel k99)) ?_;rintro e w5 ⟨rfl,hb5⟩;refine⟨_,rfl,?_⟩;replace bel:=bel.step hb5;replace k99:=k99.step hb5;replace k1:=k1.step hb5;replace k2:=k2.step hb5;refine Zl bh ?_;intro g3 w3 n3;have e3:=Nat.le_trans bel.size n3.ge;have l3:=Nat.lt_of_lt_of_le k2.lt n3.ge;replace bel:=bel.step n3.below;replace k99:=k99.step n3.below;replace k1:=k1.step n3.below;replace k2:=k2.step n3.below;have k3:=n3.aE;refine Zo 4 k3 ?_;intro w4 pw4;replace bel:=bel.put k3 pw4 e3;replace k99:=k99.put pw4 (by omega);replace k1:=k1.put pw4 (by omega);replace k2:=k2.put pw4 (by omega);replace k3:=pw4.aE;refine bI 0 1 2 3 (aN ?_);refine Zl aP ?_;intro g4 w5 n4;have e4:=Nat.le_trans bel.size n4.ge;have l4:=Nat.lt_of_lt_of_le k3.lt n4.ge;replace bel:=bel.step n4.below;replace k99:=k99.step n4.below;replace k1:=k1.step n4.below;replace k2:=k2.step n4.below;replace k3:=k3.step n4.below;have k4:=n4.aE;refine br 0 1 2 3 4 (bo (aw ?_));refine Zf 0 Tryz.underlying221 ?_;refine ZL Tryz.underlying3 k3 ?_;refine cg 0 1 2 3 4 8 (Zt (Cd.block (aw ?_)));refine bF ?_;refine Za ?_;refine bU 0 1 2 3 4 8 11 (Zt ?_);refine Cd.aF rfl (fun c1=> ?_) (fun c1=> ?_)
 ·rw[if_pos c1] at hq
  have hp1:=hp (by omega);refine Zr ?_;refine Zf 2 Tryz.underlying221 ?_;refine ZL Tryz.underlying2 k3 ?_;refine Zv (ah.build rfl rfl (lI 1 _ _)) ?_;refine Zo 4 k4 ?_;intro w6 pw6;replace bel:=bel.put k4 pw6 e4;replace k99:=k99.put pw6 (by omega);replace k1:=k1.put pw6 (by omega);replace k2:=k2.put pw6 (by omega);replace k3:=k3.put pw6 (by omega);replace k4:=pw6.aE;refine bU 0 1 2 3 4 8 11 (ai.av (aN ?_));refine ZL Tryz.underlying189 k1 ?_;refine Zv (ah.nilCheck rfl rfl) ?_;refine Zf 1 Tryz.underlying219 ?_;refine ZL Tryz.underlying3 k99 ?_;refine eS ?_;refine Zv (ah.nilCheck rfl rfl) ?_;refine Zf 1 Tryz.underlying219 ?_;refine Zq k99 ?_;intro w7 pw7;replace bel:=bel.put k99 pw7 e99;replace k1:=k1.put pw7 (by omega);replace k2:=k2.put pw7 (by omega);replace k3:=k3.put pw7 (by omega);replace k4:=k4.put pw7 (by omega);replace k99:=pw7.aE;refine bU 0 1 2 3 4 8 11 (aN ?_);refine ZW 4 Tryz.underlying105 k4 ?_;refine Zo 4 k2 ?_;intro w8 pw8;replace bel:=bel.put k2 pw8 e2;replace k99:=k99.put pw8 (by omega);replace k1:=k1.put pw8 (by omega);replace k3:=k3.put pw8 (by omega);replace k4:=k4.put pw8 (by omega);replace k2:=pw8.aE;refine bU 0 1 2 3 4 8 11 (Zt (Cd.ret ?_));refine jy 4 k2 Tryz.underlying105 ?_;rw[hq];exact⟨bel,_,rfl,pw.next hle hp1 bel k99,fun _=>False,dH.mk (args:=[]) (vs:=[]) rfl (by simp) (by unfold bM;omega) a2 (by simp) (by simp) (fun i e v h=>by simp at h) (fun h=>absurd rfl h),fun b hb=>hb.elim⟩
 rw[if_neg c1] at hq;refine aw ?_;refine bF ?_;refine Za ?_;refine db 0 1 2 3 4 8 11 16 (Zt ?_);refine Cd.aF rfl (fun c2=> ?_) (fun c2=> ?_)
 ·rw[if_pos c2] at hq
  have hp1:=hp (by omega);refine Zr ?_;refine Zf 2 Tryz.underlying221 ?_;refine ZL Tryz.underlying2 k3 ?_;refine Zv (ah.build rfl rfl (lI 2 _ _)) ?_;refine Zo 4 k4 ?_;intro w6 pw6;replace bel:=bel.put k4 pw6 e4;replace k99:=k99.put pw6 (by omega);replace k1:=k1.put pw6 (by omega);replace k2:=k2.put pw6 (by omega);replace k3:=k3.put pw6 (by omega);replace k4:=pw6.aE;refine db 0 1 2 3 4 8 11 16 (ai.av (aN ?_));refine ZL Tryz.underlying189 k1 ?_;refine Zv (ah.nilCheck rfl rfl) ?_;refine Zf 1 Tryz.underlying219 ?_;refine ZL Tryz.underlying3 k99 ?_;refine eS ?_;refine Zv (ah.nilCheck rfl rfl) ?_;refine Zf 1 Tryz.underlying219 ?_;refine Zq k99 ?_;intro w7 pw7;replace bel:=bel.put k99 pw7 e99;replace k1:=k1.put pw7 (by omega);replace k2:=k2.put pw7 (by omega);replace k3:=k3.put pw7 (by omega);replace k4:=k4.put pw7 (by omega);replace k99:=pw7.aE;refine db 0 1 2 3 4 8 11 16 (aN ?_);refine ZW 4 Tryz.underlying105 k4 ?_;refine Zo 4 k2 ?_;intro w8 pw8;replace bel:=bel.put k2 pw8 e2;replace k99:=k99.put pw8 (by omega);replace k1:=k1.put pw8 (by omega);replace k3:=k3.put pw8 (by omega);replace k4:=k4.put pw8 (by omega);replace k2:=pw8.aE;refine db 0 1 2 3 4 8 11 16 (Zt (Cd.ret ?_));refine jy 4 k2 Tryz.underlying105 ?_;rw[hq];exact⟨bel,_,rfl,pw.next hle hp1 bel k99,fun _=>False,dH.mk (args:=[]) (vs:=[]) rfl (by simp) (by unfold bM;omega) a2 (by simp) (by simp) (fun i e v h=>by simp at h) (fun h=>absurd rfl h),fun b hb=>hb.elim⟩
 rw[if_neg c2] at hq;refine aw ?_;refine bF ?_;refine Za ?_;refine eP 0 1 2 3 4 8 11 16 21 (Zt ?_);refine Cd.aF rfl (fun c3=> ?_) (fun c3=> ?_)
 ·rw[if_pos c3] at hq
  have hp1:=hp (by omega);refine aw ?_;refine Zf 1 Tryz.underlying221 ?_;refine ZL Tryz.underlying9 k3 ?_;refine fO 0 1 2 3 4 8 11 16 21 24 (Zt (Cd.block (aw ?_)));refine Zv (ah.dM (b:=zk) rfl rfl rfl a3 (by decide)) ?_;refine Za ?_;refine eT 0 1 2 3 4 8 11 16 21 24 28 (Zt ?_);refine Cd.aF rfl (fun c4=> ?_) (fun c4=> ?_)
  ·rw[if_pos c4] at hq
   refine Zr ?_;refine Zv (ah.build rfl rfl (jW 4 _)) ?_;refine Zo 4 k4 ?_;intro w6 pw6;replace bel:=bel.put k4 pw6 e4;replace k99:=k99.put pw6 (by omega);replace k1:=k1.put pw6 (by omega);replace k2:=k2.put pw6 (by omega);replace k3:=k3.put pw6 (by omega);replace k4:=pw6.aE;refine eT 0 1 2 3 4 8 11 16 21 24 28 (ai.av (ai.av (aN ?_)));refine ZL Tryz.underlying189 k1 ?_;refine Zv (ah.nilCheck rfl rfl) ?_;refine Zf 1 Tryz.underlying219 ?_;refine ZL Tryz.underlying3 k99 ?_;refine eS ?_;refine Zv (ah.nilCheck rfl rfl) ?_;refine Zf 1 Tryz.underlying219 ?_;refine Zq k99 ?_;intro w7 pw7;replace bel:=bel.put k99 pw7 e99;replace k1:=k1.put pw7 (by omega);replace k2:=k2.put pw7 (by omega);replace k3:=k3.put pw7 (by omega);replace k4:=k4.put pw7 (by omega);replace k99:=pw7.aE;refine eT 0 1 2 3 4 8 11 16 21 24 28 (aN ?_);refine ZW 4 Tryz.underlying105 k4 ?_;refine Zo 4 k2 ?_;intro w8 pw8;replace bel:=bel.put k2 pw8 e2;replace k99:=k99.put pw8 (by omega);replace k1:=k1.put pw8 (by omega);replace k3:=k3.put pw8 (by omega);replace k4:=k4.put pw8 (by omega);replace k2:=pw8.aE;refine eT 0 1 2 3 4 8 11 16 21 24 28 (Zt (Cd.ret ?_));refine jy 4 k2 Tryz.underlying105 ?_;rw[hq];exact⟨bel,_,rfl,pw.next hle hp1 bel k99,fun _=>False,dH.mk (args:=[]) (vs:=[]) rfl (by simp) (by unfold bM;omega) (by unfold bM;omega) (by simp) (by simp) (fun i e v h=>by simp at h) (fun h=>absurd rfl h),fun b hb=>hb.elim⟩
  rw[if_neg c4] at hq;refine aw ?_;refine Zv (ah.dM (b:=zx) rfl rfl rfl a3 (by decide)) ?_;refine Za ?_;refine iU 0 1 2 3 4 8 11 16 21 24 28 31 (Zt ?_);refine Cd.aF rfl (fun c5=> ?_) (fun c5=> ?_)
  ·rw[if_pos c5] at hq
   refine aw ?_;refine ZL Tryz.underlying189 k1 ?_;have hcd:=ka K hK E0 hE 9 2 p d _ (pw.to hle bel k99) hp1 (by unfold bM;omega) (by omega) (by rw[←hq];exact hne);rw[←hq] at hcd;have hs0:=bel.size;have hk2:=k2.lt;rcases Rs.cB hne with ⟨q,ov,hr⟩|⟨x,q,hr⟩
   ·rw[hr] at hcd
    refine Seq.bZ (Ze Tryz.func237) rfl hcd ?_;rintro e w8 ⟨hf,rfl,d6,hp6⟩;refine⟨_,rfl,fun a ha=>⟨ha.defers,?_⟩⟩;rw[hr];exact⟨bel.call hf,rfl,d6,hp6⟩
   rw[hr] at hcd;refine Zc (Ze Tryz.func237) (hcd) ?_;rintro e wq ⟨hf,v6,rfl,pwq,S,hrep,hb⟩;refine⟨_,rfl,?_⟩;replace bel:=bel.call hf;replace k2:=k2.fz hf (by omega);have hones:=hrep.bE;refine Seq.il rfl rfl rfl rfl (m:=4) (by kernel_rfl) hones.1 (gm hones.2) k2 (by rw[hones.1];exact Nat.le_refl _) rfl rfl ?_;intro w9 p9;have pw9:=p9.all hones.1 rfl;have pb9:=bel.put k2 p9 e2;have hlt2:=k2.lt;clear k2 bel;have k2:=pw9;have bel:=pb9;obtain⟨AX,cX,hvX⟩:=hrep.form;refine iU 0 1 2 3 4 8 11 16 21 24 28 31 (Zt (Cd.ret (ai.au (ai.au (ai.ar ?_)))));subst hvX;refine jy 4 k2 Tryz.underlying105 ?_;rw[hr];refine⟨bel,_,rfl,⟨pwq.aE.put p9 (by omega),pwq.rd.below (p9.below (by omega) hlt2),pwq.cG,pwq.dm⟩,S,hrep.mono (fun _ h=>h) (fun a ha=>World.cell?_of_block (p9.grown.block _ (hb _ ha).2 (fun e=>by injection e with e;have:=(hb _ ha).1;omega))),fun b hb'=> ?_⟩;obtain⟨h1,h2⟩:=hb b hb';have:=p9.size;exact⟨by omega,by omega⟩
  rw[if_neg c5] at hq;refine aw ?_;refine Zv (ah.dM (b:=zu) rfl rfl rfl a3 (by decide)) ?_;refine Za ?_;refine jU 0 1 2 3 4 8 11 16 21 24 28 31 35 (Zt ?_);refine Cd.aF rfl (fun c6=> ?_) (fun c6=> ?_)
  ·rw[if_pos c6] at hq
   refine aw ?_;refine ZL Tryz.underlying189 k1 ?_;have hcd:=ka K hK E0 hE 10 2 p d _ (pw.to hle bel k99) hp1 (by unfold bM;omega) (by omega) (by rw[←hq];exact hne);rw[←hq] at hcd;have hs0:=bel.size;have hk2:=k2.lt;rcases Rs.cB hne with ⟨q,ov,hr⟩|⟨x,q,hr⟩
   ·rw[hr] at hcd
    refine Seq.bZ (Ze Tryz.func237) rfl hcd ?_;rintro e w8 ⟨hf,rfl,d6,hp6⟩;refine⟨_,rfl,fun a ha=>⟨ha.defers,?_⟩⟩;rw[hr];exact⟨bel.call hf,rfl,d6,hp6⟩
   rw[hr] at hcd;refine Zc (Ze Tryz.func237) (hcd) ?_;rintro e wq ⟨hf,v6,rfl,pwq,S,hrep,hb⟩;refine⟨_,rfl,?_⟩;replace bel:=bel.call hf;replace k2:=k2.fz hf (by omega);have hones:=hrep.bE;refine Seq.il rfl rfl rfl rfl (m:=4) (by kernel_rfl) hones.1 (gm hones.2) k2 (by rw[hones.1];exact Nat.le_refl _) rfl rfl ?_;intro w9 p9;have pw9:=p9.all hones.1 rfl;have pb9:=bel.put k2 p9 e2;have hlt2:=k2.lt;clear k2 bel;have k2:=pw9;have bel:=pb9;obtain⟨AX,cX,hvX⟩:=hrep.form;refine jU 0 1 2 3 4 8 11 16 21 24 28 31 35 (Zt (Cd.ret (ai.au (ai.au (ai.ar ?_)))));subst hvX;refine jy 4 k2 Tryz.underlying105 ?_;rw[hr];refine⟨bel,_,rfl,⟨pwq.aE.put p9 (by omega),pwq.rd.below (p9.below (by omega) hlt2),pwq.cG,pwq.dm⟩,S,hrep.mono (fun _ h=>h) (fun a ha=>World.cell?_of_block (p9.grown.block _ (hb _ ha).2 (fun e=>by injection e with e;have:=(hb _ ha).1;omega))),fun b hb'=> ?_⟩;obtain⟨h1,h2⟩:=hb b hb';have:=p9.size;exact⟨by omega,by omega⟩
  rw[if_neg c6] at hq;refine aw ?_;refine Zv (ah.dM (b:=AF) rfl rfl rfl a3 (by decide)) ?_;refine Za ?_;refine jV 0 1 2 3 4 8 11 16 21 24 28 31 35 39 (Zt ?_);refine Cd.aF rfl (fun c7=> ?_) (fun c7=> ?_)
  ·rw[if_pos c7] at hq
   refine aw ?_;refine ZL Tryz.underlying189 k1 ?_;have hcd:=ka K hK E0 hE 21 3 p d _ (pw.to hle bel k99) hp1 (by unfold bM;omega) (by omega) (by rw[←hq];exact hne);rw[←hq] at hcd;have hs0:=bel.size;have hk2:=k2.lt;rcases Rs.cB hne with ⟨q,ov,hr⟩|⟨x,q,hr⟩
   ·rw[hr] at hcd
    refine Seq.bZ (Ze Tryz.func237) rfl hcd ?_;rintro e w8 ⟨hf,rfl,d6,hp6⟩;refine⟨_,rfl,fun a ha=>⟨ha.defers,?_⟩⟩;rw[hr];exact⟨bel.call hf,rfl,d6,hp6⟩
   rw[hr] at hcd;refine Zc (Ze Tryz.func237) (hcd) ?_;rintro e wq ⟨hf,v6,rfl,pwq,S,hrep,hb⟩;refine⟨_,rfl,?_⟩;replace bel:=bel.call hf;replace k2:=k2.fz hf (by omega);have hones:=hrep.bE;refine Seq.il rfl rfl rfl rfl (m:=4) (by kernel_rfl) hones.1 (gm hones.2) k2 (by rw[hones.1];exact Nat.le_refl _) rfl rfl ?_;intro w9 p9;have pw9:=p9.all hones.1 rfl;have pb9:=bel.put k2 p9 e2;have hlt2:=k2.lt;clear k2 bel;have k2:=pw9;have bel:=pb9;obtain⟨AX,cX,hvX⟩:=hrep.form;refine jV 0 1 2 3 4 8 11 16 21 24 28 31 35 39 (Zt (Cd.ret (ai.au (ai.au (ai.ar ?_)))));subst hvX;refine jy 4 k2 Tryz.underlying105 ?_;rw[hr];refine⟨bel,_,rfl,⟨pwq.aE.put p9 (by omega),pwq.rd.below (p9.below (by omega) hlt2),pwq.cG,pwq.dm⟩,S,hrep.mono (fun _ h=>h) (fun a ha=>World.cell?_of_block (p9.grown.block _ (hb _ ha).2 (fun e=>by injection e with e;have:=(hb _ ha).1;omega))),fun b hb'=> ?_⟩;obtain⟨h1,h2⟩:=hb b hb';have:=p9.size;exact⟨by omega,by omega⟩
  rw[if_neg c7] at hq;have hnm:=rE K hK p d _ (pw.to hle bel k99);refine aw ?_;refine ZL Tryz.underlying189 k1 ?_;rcases Rs.cB (rb K.ws p) with ⟨q,ov,hr⟩|⟨x,q,hr⟩
  ·rw[hr] at hnm hq
   refine Seq.bZ (Ze Tryz.func168) rfl hnm ?_;rintro e w8 ⟨hf,rfl,d6,hp6⟩;refine⟨_,rfl,fun a ha=>⟨ha.defers,?_⟩⟩;rw[hq];exact⟨bel.call hf,rfl,d6,hp6⟩
  have hx:x=(K.at_ p).text:=by
   unfold eV at hr;split at hr
   ·injection hr with hr;rw[←hr,b2]
   ·cases hr
  rw[hr] at hnm hq;replace hq:iS K.ws E0 p d= .ok (.mk 3 0 x []) q:=hq;refine Zc (Ze Tryz.func168) (hnm) ?_;rintro e wq ⟨hf,v6,rfl,pwq,rfl⟩;refine⟨_,rfl,?_⟩;replace bel:=bel.call hf;replace k2:=k2.fz hf (by omega);replace k99:=pwq.aE;have loc:=Fz.refl wq.heap.size K.g wq;have hlt2:=k2.lt;refine Zv (ah.build rfl rfl (pO 3 _ _)) ?_;refine Zo 4 k2 ?_;intro w6 pw6;replace bel:=bel.put k2 pw6 e2;replace k99:=k99.put pw6 (by omega);replace k2:=pw6.aE;refine jV 0 1 2 3 4 8 11 16 21 24 28 31 35 39 (Zt (Cd.ret (ai.au (ai.au (ai.ar ?_)))));refine jy 4 k2 Tryz.underlying105 ?_;rw[hq];exact⟨bel,_,rfl,⟨k99,pwq.rd.below (pw6.below (by omega) hlt2),pwq.cG,pwq.dm⟩,fun _=>False,dH.mk (args:=[]) (vs:=[]) rfl (by simp) (by unfold bM;omega) (by unfold bM;omega) (by rw[hx];exact a3) (by rw[hx];omega) (fun i e v h=>by simp at h) (fun h=>absurd rfl h),fun b hb=>hb.elim⟩
 rw[if_neg c3] at hq;refine aw ?_;refine bF ?_;refine Za ?_;refine fO 0 1 2 3 4 8 11 16 21 43 (Zt ?_);refine Cd.aF rfl (fun c8=> ?_) (fun c8=> ?_)
 ·rw[if_pos c8] at hq
  refine aw ?_;refine ZL Tryz.underlying189 k1 ?_;refine Zv (ah.makeFunc (v:= .func (.func 238) #[] #[.pointer (some ⟨g1,0,none⟩), .pointer (some ⟨g4,0,none⟩)]) rfl (show gx _ _=some [] from rfl) (show gx _ _=some [.pointer (some ⟨g1,0,none⟩), .pointer (some ⟨g4,0,none⟩)] from rfl) rfl) ?_;refine Seq.slice (vs:=[_]) (s:=1) rfl rfl rfl Tryz.underlying225 (by kernel_rfl) (dv) (by omega) (by omega) ⟨rfl,trivial⟩ rfl rfl rfl ?_;intro g47 w6 n47;have e47:=Nat.le_trans bel.size n47.ge;have l47:=Nat.lt_of_lt_of_le k4.lt n47.ge;replace bel:=bel.step n47.below;replace k99:=k99.step n47.below;replace k1:=k1.step n47.below;replace k2:=k2.step n47.below;replace k3:=k3.step n47.below;replace k4:=k4.step n47.below;have k47:=n47.aE;have pw8:=pw.to hle bel k99;obtain⟨wr,hwr⟩:∃wr,wr=w6:=⟨_,rfl⟩;rw[←hwr] at pw8 bel k1 k2 k4 k47⊢;obtain⟨R,hR⟩:∃R,R=cq K.ws [E0] p d:=⟨_,rfl⟩;rw[←hR] at hq;have hneR:R≠ .out:=Rs.ew (by rw[←hq];exact hne);have hgg4:K.g<g4:=by omega
  have hwi:=iA K hK g4 [E0] [(238,[Value.pointer (some ⟨g1,0,none⟩),Value.pointer (some ⟨g4,0,none⟩)])] (some ⟨g47,0,none⟩) 1
   (fun xs W=>Kp wr W∧uV g4 g4 xs W) p d wr pw8 (Nat.le_of_lt k4.lt) rfl (by simp)
   ⟨Kp.refl wr,_,k4,rfl,fun x hx=>by simp at hx⟩
   (fun xs W W' p d hM hp hf=>⟨hM.1.fz hp.aE hf,hM.2.fz hf hgg4 (Nat.le_refl _)⟩)
   (fun xs W j f cp hM hj=>by
    match j,hj with
    |0,hj=>
     simp at hj;obtain⟨e1,e2⟩:=hj;subst e1 e2;refine⟨_,rfl,?_⟩;have hb:=(hM.1.aE k47).cell 0;exact hb
    |j+1,hj=>simp at hj)
   (fun j f cp hj=>by
    match j,hj with
    |0,hj=>
     simp at hj;obtain⟨e1,e2⟩:=hj;subst e1;exact yC
    |j+1,hj=>simp at hj)
   (fun j f cp one hj ho xs W p' hxl hpw hW hM hne1=>by
    match j,hj,ho,hxl with
    |0,hj,ho,hxl=>
     simp at hj ho;obtain⟨e1,e2⟩:=hj;subst e1 e2 ho;have hx0:xs=[]:=List.eq_nil_of_length_eq_zero hxl;subst hx0;exact(uk K hK g4 g1 g4 (d+1) p' E0 W hpw hgg4 (Nat.le_refl _) hW (hM.1.aE k1) hM.2 (fun W' h1 _=>hE p' (d+1) W' h1 hne1) hne1).mono fun e W' hq=>hq.mono fun a v W' h=>⟨hM.1.trans h.1,h.2⟩
    |j+1,hj,_,_=>simp at hj)
   (by rw[←hR];exact hneR)
  rw[←hR] at hwi;rcases Rs.cB hneR with ⟨q,ov,hr⟩|⟨xs,q,hr⟩
  ·rw[hr] at hwi hq
   refine Seq.bZ (Ze Tryz.func166) rfl hwi ?_;rintro e w8 ⟨hf,rfl,d6,hp6⟩;refine⟨_,rfl,fun a ha=>⟨ha.defers,?_⟩⟩;rw[hq];exact⟨bel.trans (hf.less (by omega)),rfl,d6,hp6⟩
  have hxl:=gA (hR.symm.trans hr)
  obtain⟨x,rfl⟩:∃x,xs=[x]:=by
   match xs,hxl with
   | [x],_=>exact⟨x,rfl⟩
  rw[hr] at hwi hq;replace hq:iS K.ws E0 p d= .ok x q:=hq;refine Zc (Ze Tryz.func166) (hwi) ?_;rintro e wq ⟨hf,v6,rfl,pwq,kpq,cs,k4q,hcs4,hx⟩;refine⟨_,rfl,?_⟩;obtain⟨S,v,rfl,hrep,hb⟩:=hx x rfl
  have k2q:aQ wq g2 105 #[.int .i64 0, .int .i64 0, .string {data:= #[]}, .slice none 0 0]:=by
   have h2:aQ wr g2 105 #[.int .i64 0, .int .i64 0, .string {data:= #[]}, .slice none 0 0]:=k2;have h1:=hf.block g2 (by omega) (by omega);unfold aQ at h2⊢;rw[h1];exact h2
  have belq:Fz w.heap.size K.g w wq:=bel.trans (hf.less (by omega));clear bel k1 k2 k3 k4 k47 k99;have bel:=belq;have k2:=k2q;obtain⟨AX,cX,hvX⟩:=hrep.form;subst hvX;have k4:=k4q;have hlt2:=k2.lt;refine fO 0 1 2 3 4 8 11 16 21 43 (aN ?_);refine ZW 4 Tryz.underlying105 k4 ?_;refine Zo 4 k2 ?_;intro w7 pw7;replace bel:=bel.put k2 pw7 e2;replace k4:=k4.put pw7 (by omega);replace k2:=pw7.aE;refine fO 0 1 2 3 4 8 11 16 21 43 (Zt (Cd.ret (ai.au (ai.ar ?_))));refine jy 4 k2 Tryz.underlying105 ?_;rw[hq];refine⟨bel,_,rfl,⟨pwq.aE.put pw7 (by omega),pwq.rd.below (pw7.below (by omega) hlt2),pwq.cG,pwq.dm⟩,S,hrep.mono (fun _ h=>h) (fun a ha=>World.cell?_of_block (pw7.grown.block _ (hb _ ha).2.1 (fun e=>by injection e with e;have:=(hb _ ha).1;omega))),fun b hb'=> ?_⟩;obtain⟨h1,h2,h3⟩:=hb b hb';have:=pw7.size;exact⟨by omega,by omega⟩
 rw[if_neg c8] at hq;refine Zr ?_;refine ZL Tryz.underlying189 k1 ?_;refine Seq.bZ (Ze Tryz.func165) rfl (ic K.g _) ?_;rintro e w6 ⟨rfl,hb6⟩;refine⟨_,rfl,fun a ha=>⟨ha.defers,?_⟩⟩;rw[hq];exact⟨bel.step hb6,rfl,d,pw.to hle (bel.step hb6) (k99.step hb6)⟩
theorem kP (a:Int)(g:Nat)(w:World):(Instr.build 105 #[(0, .int .i64 a),(3, .slice (some ⟨g,0,none⟩) 1 1)]).run Tryz.prog w= .ok (.agg #[.int .i64 a, .int .i64 0, .string (strOf []), .slice (some ⟨g,0,none⟩) 1 1]) w:=by
 have hu:=Tryz.underlying105
 go_simp
 rfl
structure yZ (lo hi:Nat)(S:Nat→Prop)(x:Ex)(v:Value)(W:World):Prop where
 rep:dH W S x v
 bd:∀b,S b→lo≤b∧b<hi
 hO:hi≤W.heap.size
theorem yZ.step {lo hi:Nat}{S:Nat→Prop}{x:Ex}{v:Value}{W W':World}(r:yZ lo hi S x v W)(h:Below W.heap.size W W'):yZ lo hi S x v W':=
 ⟨r.rep.mono (fun _ h=>h) (fun a ha=>h.cell (Nat.lt_of_lt_of_le (r.bd _ ha).2 r.hO)),r.bd,Nat.le_trans r.hO h.size⟩
theorem yZ.put {lo hi g:Nat}{T:TypeId}{cur cs:Array Value}{S:Nat→Prop}{x:Ex}{v:Value}{W W':World}(r:yZ lo hi S x v W)(_k:aQ W g T cur)(p:kW W W' g T cs){E:Prop}(_e:E)(hne:g<lo∨hi≤g:=by omega):yZ lo hi S x v W':=
 ⟨r.rep.mono (fun _ h=>h) (fun a ha=>World.cell?_of_block (p.grown.block _ (Nat.lt_of_lt_of_le (r.bd _ ha).2 r.hO) (fun e=>by injection e with e;have:=r.bd _ ha;omega))),r.bd,Nat.le_trans r.hO (Nat.le_of_eq p.size.symm)⟩
def yh (K:Ctx)(S0:Nat→Nat→Rs Ex):Prop:=∀p d W,PW K W p d false→S0 p d≠ .out→Calls Tryz.prog 196 #[.pointer (some ⟨K.g,0,none⟩)] W (PR K W d (S0 p d) (xI W))
theorem tZ (K:Ctx)(hK:K.Ok)(S0 E0:Nat→Nat→Rs Ex)(hS:yh K S0)(hE:yR K E0)(p d:Nat)(w:World)(pw:PW K w p d false)(hne:dt K.ws S0 E0 p d≠ .out):
  Calls Tryz.prog 196 #[.pointer (some ⟨K.g,0,none⟩)] w (PR K w d (dt K.ws S0 E0 p d) (xI w)):=by
 have bel:=Fz.refl w.heap.size K.g w;have k99:=pw.aE;have e99:K.g=K.g:=rfl;have hlt:=pw.aE.lt;have hlen:=hK.len;have hle:=hK.le;have hpl:=pw.cG;have his:=fun(s:List Nat) (hs:∀x∈s,x<256) W h=>wo K hK p d false 0 s W h hs;have hq:dt K.ws S0 E0 p d=if uF K.ws p [33]=true then fx S0 19 p d else if uF K.ws p [45]=true then fx S0 20 p d else iS K.ws E0 p d:=rfl
 have hp:∀s,uF K.ws p s=true→p+1≤K.ws.length:=fun s hk=>by
  rcases Nat.lt_or_ge p K.ws.length with h|h
  ·exact h
  ·unfold uF at hk
   have h1:eU K.ws p=⟨-1,[],0,0⟩:=by unfold eU;rw[List.getD_eq_getElem?_getD,List.getElem?_eq_none h];rfl
   rw[h1] at hk;simp at hk
 refine Zs 35 Tryz.func196 ?_;refine aw ?_;refine Zl aP ?_;intro g2 w1 n2;have e2:=Nat.le_trans bel.size n2.ge;have l2:=Nat.lt_of_lt_of_le k99.lt n2.ge;replace bel:=bel.step n2.below;replace k99:=k99.step n2.below;have k2:=n2.aE;refine eh 0 2 (aN ?_);refine Za ?_;refine bV 0 2 3 (bo (Cd.block (aw ?_)));refine Zm ?_;refine Zc (Ze Tryz.func221) (his [33] (by decide) _ (pw.to hle bel k99)) ?_;rintro e w5 ⟨rfl,hb5⟩;refine⟨_,rfl,?_⟩;replace bel:=bel.step hb5;replace k99:=k99.step hb5;replace k2:=k2.step hb5;refine Za ?_;refine bI 0 2 3 7 (Zt ?_);refine Cd.cond rfl (fun c1=> ?_) (fun c1=> ?_)
 ·have c1:uF K.ws p [33]=true:=c1
  have hp1:=hp _ c1;rw[if_pos c1] at hq;have hen:=lA K hK p d _ (pw.to hle bel k99);refine Zr ?_;refine Za ?_;refine bI 0 2 3 7 (ai.av (aN ?_));refine Zm ?_;rcases Rs.cB (kZ p d) with ⟨p2,o2,hr2⟩|⟨u2,p2,hr2⟩
  ·unfold fx at hq
   rw[hr2] at hen hq;refine Seq.bZ (Ze Tryz.func209) rfl hen ?_;rintro e w6 ⟨hf,rfl,d6,hp6⟩;refine⟨_,rfl,fun a ha=>⟨ha.defers,?_⟩⟩;rw[hq];exact⟨bel.call hf,rfl,d6,hp6⟩
  have hp2:p2=p:=by
   unfold ey at hr2;split at hr2
   ·cases hr2
   ·injection hr2 with _ h;exact h.symm
  subst hp2;unfold fx at hq;rw[hr2] at hen hq;replace hq:dt K.ws S0 E0 p2 d=(S0 (p2+1) (d+1)).bind fun x p=> .ok (.mk 19 0 [] [x]) p:=hq;have hne1:S0 (p2+1) (d+1)≠ .out:=Rs.ew (by rw[←hq];exact hne);refine Zc (Ze Tryz.func209) (hen) ?_;rintro e we ⟨hfe,v6,rfl,pwe,-⟩;refine⟨_,rfl,?_⟩;replace bel:=bel.call hfe;replace k2:=k2.fz hfe (by omega);replace k99:=pwe.aE;have loc:=Fz.refl we.heap.size K.g we;refine bI 0 2 3 7 (aN ?_);refine Zm ?_;refine Zv (ah.nilCheck rfl rfl) ?_;refine Zf 1 Tryz.underlying219 ?_;refine ZL Tryz.underlying3 k99 ?_;refine eS ?_;refine Zv (ah.nilCheck rfl rfl) ?_;refine Zf 1 Tryz.underlying219 ?_;refine Zq k99 ?_;intro w2 pw2;replace bel:=bel.put k99 pw2 e99;replace k2:=k2.put pw2 (by omega);replace loc:=loc.put k99 pw2 e99;replace k99:=pw2.aE;refine bI 0 2 3 7 (aN ?_);refine Zm ?_;have pwn:=pwe.next hle hp1 loc k99;have hun:=hS (p2+1) (d+1) _ pwn hne1;rcases Rs.cB hne1 with ⟨q,ov,hr⟩|⟨x,q,hr⟩
  ·rw[hr] at hun hq
   refine Seq.bZ (Ze Tryz.func196) rfl hun ?_;rintro e w6 ⟨hf,rfl,d6,hp6⟩;refine⟨_,rfl,fun a ha=>⟨ha.defers,?_⟩⟩;rw[hq];exact⟨bel.call hf,rfl,d6,hp6⟩
  rw[hr] at hun hq;replace hq:dt K.ws S0 E0 p2 d= .ok (.mk 19 0 [] [x]) q:=hq;have hk2:=k2.lt;have hsb:=bel.size;refine Zc (Ze Tryz.func196) (hun) ?_;rintro e wq ⟨hf,v6,rfl,pwq,S,hrep,hb⟩;refine⟨_,rfl,?_⟩;replace bel:=bel.call hf;replace k2:=k2.fz hf (by omega);replace k99:=pwq.aE;have hones:=hrep.bE;have hsf:=hf.size;have rs:yZ _ wq.heap.size S x v6 wq:=⟨hrep,hb,Nat.le_refl _⟩;clear loc;obtain⟨AX,cX,hvX⟩:=hrep.form;subst hvX;have hd64:=pwq.deep;refine Zl aP ?_;intro g4 w3 n4;have q4:=n4.ge;have e4:=Nat.le_trans bel.size n4.ge;have l4:=Nat.lt_of_lt_of_le k2.lt n4.ge;replace bel:=bel.step n4.below;replace k99:=k99.step n4.below;replace k2:=k2.step n4.below;replace rs:=rs.step n4.below;have k4:=n4.aE;refine Zo 4 k4 ?_;intro w4 pw4;replace bel:=bel.put k4 pw4 e4;replace k99:=k99.put pw4 (by omega);replace k2:=k2.put pw4 (by omega);replace rs:=rs.put k4 pw4 e4;replace k4:=pw4.aE;refine br 0 2 3 4 7 (aN ?_);refine Zm ?_;refine Zv (ah.nilCheck rfl rfl) ?_;refine Zf 2 Tryz.underlying219 ?_;refine ZL Tryz.underlying3 k99 ?_;refine rW ?_;refine Zv (ah.nilCheck rfl rfl) ?_;refine Zf 2 Tryz.underlying219 ?_;refine Zq k99 ?_;intro w5 pw5;replace bel:=bel.put k99 pw5 e99;replace k2:=k2.put pw5 (by omega);replace rs:=rs.put k99 pw5 e99;replace k4:=k4.put pw5 (by omega);replace k99:=pw5.aE;refine br 0 2 3 4 7 (aN ?_);refine Zm ?_;refine ZW 4 Tryz.underlying105 k4 ?_;refine Seq.slice (vs:=[_]) (s:=4) rfl rfl rfl Tryz.underlying68 (by kernel_rfl) (aP) (by omega) (by omega) ⟨rfl,trivial⟩ rfl rfl rfl ?_;intro g33 w6 n33;have q33:=n33.ge;have e33:=Nat.le_trans bel.size n33.ge;have l33:=Nat.lt_of_lt_of_le k4.lt n33.ge;replace bel:=bel.step n33.below;replace k99:=k99.step n33.below;replace k2:=k2.step n33.below;replace rs:=rs.step n33.below;replace k4:=k4.step n33.below;have k33:=n33.aE;refine Zv (ah.build rfl rfl (kP 19 _ _)) ?_;refine Zo 4 k2 ?_;intro w7 pw7;replace bel:=bel.put k2 pw7 e2;replace k99:=k99.put pw7 (by omega);replace rs:=rs.put k2 pw7 e2;replace k4:=k4.put pw7 (by omega);replace k33:=k33.put pw7 (by omega);replace k2:=pw7.aE;refine br 0 2 3 4 7 (Zt (Cd.ret ?_));refine jy 4 k2 Tryz.underlying105 ?_;have hcast:((d+1:Nat):Int)-1=(d:Int):=by omega
  rw[hcast] at k99;rw[hq];have hadd:(⟨g33,0,none⟩:Addr).add=fun j=>⟨g33,j,none⟩:=by funext j;unfold Addr.add;split<;>simp_all
  refine⟨bel,_,rfl,⟨k99,pw.rd.below (bel.below (by omega) hle),pwq.cG, .inl (by omega)⟩,(fun b=>S b∨b=g33),dH.mk (args:=[x]) (vs:=[.agg #[.int .i64 x.op, .int .i64 x.n, .string (strOf x.name), .slice AX x.args.length cX]]) rfl (by simp) (by unfold bM;omega) (by unfold bM;omega) (by simp) (by simp) (fun i e v h1 h2=> ?_) (fun _=>⟨⟨g33,0,none⟩,rfl, .inr rfl,fun j u hu=> ?_⟩),fun b hb'=> ?_⟩
  ·match i,h1,h2 with
   |0,h1,h2=>
    simp at h1 h2;subst h1 h2;exact rs.rep.mono (fun _ h=> .inl h) (fun _ _=>rfl)
   |i+1,h1,_=>simp at h1
  ·rw[hadd,k33.cell j]
   have hu2:(aU [Value.agg #[.int .i64 x.op, .int .i64 x.n, .string (strOf x.name), .slice AX x.args.length cX]]).toArray[j]? =some u:=by simpa using hu
   exact hu2
  ·rcases hb' with hb'|rfl
   ·obtain⟨h1,h2⟩:=hb b hb'
    have:=rs.hO;exact⟨by omega,by omega⟩
   ·exact⟨by omega,k33.lt⟩
 have c1:uF K.ws p [33]=false:=c1;rw[if_neg (by rw[c1];simp)] at hq;refine aw ?_;refine Zm ?_;refine Zc (Ze Tryz.func221) (his [45] (by decide) _ (pw.to hle bel k99)) ?_;rintro e w6 ⟨rfl,hb6⟩;refine⟨_,rfl,?_⟩;replace bel:=bel.step hb6;replace k99:=k99.step hb6;replace k2:=k2.step hb6;refine Za ?_;refine br 0 2 3 7 10 (Zt ?_);refine Cd.cond rfl (fun c2=> ?_) (fun c2=> ?_)
 ·have c2:uF K.ws p [45]=true:=c2
  have hp1:=hp _ c2;rw[if_pos c2] at hq;have hen:=lA K hK p d _ (pw.to hle bel k99);refine Zr ?_;refine Za ?_;refine br 0 2 3 7 10 (ai.av (aN ?_));refine Zm ?_;rcases Rs.cB (kZ p d) with ⟨p2,o2,hr2⟩|⟨u2,p2,hr2⟩
  ·unfold fx at hq
   rw[hr2] at hen hq;refine Seq.bZ (Ze Tryz.func209) rfl hen ?_;rintro e w6 ⟨hf,rfl,d6,hp6⟩;refine⟨_,rfl,fun a ha=>⟨ha.defers,?_⟩⟩;rw[hq];exact⟨bel.call hf,rfl,d6,hp6⟩
  have hp2:p2=p:=by
   unfold ey at hr2;split at hr2
   ·cases hr2
   ·injection hr2 with _ h;exact h.symm
  subst hp2;unfold fx at hq;rw[hr2] at hen hq;replace hq:dt K.ws S0 E0 p2 d=(S0 (p2+1) (d+1)).bind fun x p=> .ok (.mk 20 0 [] [x]) p:=hq;have hne1:S0 (p2+1) (d+1)≠ .out:=Rs.ew (by rw[←hq];exact hne);refine Zc (Ze Tryz.func209) (hen) ?_;rintro e we ⟨hfe,v6,rfl,pwe,-⟩;refine⟨_,rfl,?_⟩;replace bel:=bel.call hfe;replace k2:=k2.fz hfe (by omega);replace k99:=pwe.aE;have loc:=Fz.refl we.heap.size K.g we;refine br 0 2 3 7 10 (aN ?_);refine Zm ?_;refine Zv (ah.nilCheck rfl rfl) ?_;refine Zf 1 Tryz.underlying219 ?_;refine ZL Tryz.underlying3 k99 ?_;refine eS ?_;refine Zv (ah.nilCheck rfl rfl) ?_;refine Zf 1 Tryz.underlying219 ?_;refine Zq k99 ?_;intro w2 pw2;replace bel:=bel.put k99 pw2 e99;replace k2:=k2.put pw2 (by omega);replace loc:=loc.put k99 pw2 e99;replace k99:=pw2.aE;refine br 0 2 3 7 10 (aN ?_);refine Zm ?_;have pwn:=pwe.next hle hp1 loc k99;have hun:=hS (p2+1) (d+1) _ pwn hne1;rcases Rs.cB hne1 with ⟨q,ov,hr⟩|⟨x,q,hr⟩
  ·rw[hr] at hun hq
   refine Seq.bZ (Ze Tryz.func196) rfl hun ?_;rintro e w6 ⟨hf,rfl,d6,hp6⟩;refine⟨_,rfl,fun a ha=>⟨ha.defers,?_⟩⟩;rw[hq];exact⟨bel.call hf,rfl,d6,hp6⟩
  rw[hr] at hun hq;replace hq:dt K.ws S0 E0 p2 d= .ok (.mk 20 0 [] [x]) q:=hq;have hk2:=k2.lt;have hsb:=bel.size;refine Zc (Ze Tryz.func196) (hun) ?_;rintro e wq ⟨hf,v6,rfl,pwq,S,hrep,hb⟩;refine⟨_,rfl,?_⟩;replace bel:=bel.call hf;replace k2:=k2.fz hf (by omega);replace k99:=pwq.aE;have hones:=hrep.bE;have hsf:=hf.size;have rs:yZ _ wq.heap.size S x v6 wq:=⟨hrep,hb,Nat.le_refl _⟩;clear loc;obtain⟨AX,cX,hvX⟩:=hrep.form;subst hvX;have hd64:=pwq.deep;refine Zl aP ?_;intro g4 w3 n4;have q4:=n4.ge;have e4:=Nat.le_trans bel.size n4.ge;have l4:=Nat.lt_of_lt_of_le k2.lt n4.ge;replace bel:=bel.step n4.below;replace k99:=k99.step n4.below;replace k2:=k2.step n4.below;replace rs:=rs.step n4.below;have k4:=n4.aE;refine Zo 4 k4 ?_;intro w4 pw4;replace bel:=bel.put k4 pw4 e4;replace k99:=k99.put pw4 (by omega);replace k2:=k2.put pw4 (by omega);replace rs:=rs.put k4 pw4 e4;replace k4:=pw4.aE;refine cg 0 2 3 4 7 10 (aN ?_);refine Zm ?_;refine Zv (ah.nilCheck rfl rfl) ?_;refine Zf 2 Tryz.underlying219 ?_;refine ZL Tryz.underlying3 k99 ?_;refine rW ?_;refine Zv (ah.nilCheck rfl rfl) ?_;refine Zf 2 Tryz.underlying219 ?_;refine Zq k99 ?_;intro w5 pw5;replace bel:=bel.put k99 pw5 e99;replace k2:=k2.put pw5 (by omega);replace rs:=rs.put k99 pw5 e99;replace k4:=k4.put pw5 (by omega);replace k99:=pw5.aE;refine cg 0 2 3 4 7 10 (aN ?_);refine Zm ?_;refine ZW 4 Tryz.underlying105 k4 ?_;refine Seq.slice (vs:=[_]) (s:=4) rfl rfl rfl Tryz.underlying68 (by kernel_rfl) (aP) (by omega) (by omega) ⟨rfl,trivial⟩ rfl rfl rfl ?_;intro g33 w6 n33;have q33:=n33.ge;have e33:=Nat.le_trans bel.size n33.ge;have l33:=Nat.lt_of_lt_of_le k4.lt n33.ge;replace bel:=bel.step n33.below;replace k99:=k99.step n33.below;replace k2:=k2.step n33.below;replace rs:=rs.step n33.below;replace k4:=k4.step n33.below;have k33:=n33.aE;refine Zv (ah.build rfl rfl (kP 20 _ _)) ?_;refine Zo 4 k2 ?_;intro w7 pw7;replace bel:=bel.put k2 pw7 e2;replace k99:=k99.put pw7 (by omega);replace rs:=rs.put k2 pw7 e2;replace k4:=k4.put pw7 (by omega);replace k33:=k33.put pw7 (by omega);replace k2:=pw7.aE;refine cg 0 2 3 4 7 10 (Zt (Cd.ret ?_));refine jy 4 k2 Tryz.underlying105 ?_;have hcast:((d+1:Nat):Int)-1=(d:Int):=by omega
  rw[hcast] at k99;rw[hq];have hadd:(⟨g33,0,none⟩:Addr).add=fun j=>⟨g33,j,none⟩:=by funext j;unfold Addr.add;split<;>simp_all
  refine⟨bel,_,rfl,⟨k99,pw.rd.below (bel.below (by omega) hle),pwq.cG, .inl (by omega)⟩,(fun b=>S b∨b=g33),dH.mk (args:=[x]) (vs:=[.agg #[.int .i64 x.op, .int .i64 x.n, .string (strOf x.name), .slice AX x.args.length cX]]) rfl (by simp) (by unfold bM;omega) (by unfold bM;omega) (by simp) (by simp) (fun i e v h1 h2=> ?_) (fun _=>⟨⟨g33,0,none⟩,rfl, .inr rfl,fun j u hu=> ?_⟩),fun b hb'=> ?_⟩
  ·match i,h1,h2 with
   |0,h1,h2=>
    simp at h1 h2;subst h1 h2;exact rs.rep.mono (fun _ h=> .inl h) (fun _ _=>rfl)
   |i+1,h1,_=>simp at h1
  ·rw[hadd,k33.cell j]
   have hu2:(aU [Value.agg #[.int .i64 x.op, .int .i64 x.n, .string (strOf x.name), .slice AX x.args.length cX]]).toArray[j]? =some u:=by simpa using hu
   exact hu2
  ·rcases hb' with hb'|rfl
   ·obtain⟨h1,h2⟩:=hb b hb'
    have:=rs.hO;exact⟨by omega,by omega⟩
   ·exact⟨by omega,k33.lt⟩
 have c2:uF K.ws p [45]=false:=c2;rw[if_neg (by rw[c2];simp)] at hq;rw[hq] at hne;have hat:=wN K hK E0 hE p d _ (pw.to hle bel k99) hne;refine aw ?_;refine Zm ?_;rcases Rs.cB hne with ⟨q,ov,hr⟩|⟨x,q,hr⟩
 ·rw[hr] at hat
  refine Seq.bZ (Ze Tryz.func222) rfl hat ?_;rintro e w8 ⟨hf,rfl,d6,hp6⟩;refine⟨_,rfl,fun a ha=>⟨ha.defers,?_⟩⟩;rw[hq,hr];exact⟨bel.call hf,rfl,d6,hp6⟩
 rw[hr] at hat;have hk2:=k2.lt;have hsb:=bel.size;refine Zc (Ze Tryz.func222) (hat) ?_;rintro e wq ⟨hf,v6,rfl,pwq,S,hrep,hb⟩;refine⟨_,rfl,?_⟩;replace bel:=bel.call hf;replace k2:=k2.fz hf (by omega);obtain⟨AX,cX,hvX⟩:=hrep.form;subst hvX;have hlt2:=k2.lt;refine Zo 4 k2 ?_;intro w2 pw2;replace bel:=bel.put k2 pw2 e2;replace k2:=pw2.aE;refine br 0 2 3 7 10 (Zt (Cd.ret (ai.au (ai.ar ?_))));refine jy 4 k2 Tryz.underlying105 ?_;rw[hq,hr];refine⟨bel,_,rfl,⟨pwq.aE.put pw2 (by omega),pwq.rd.below (pw2.below (by omega) hlt2),pwq.cG,pwq.dm⟩,S,hrep.mono (fun _ h=>h) (fun a ha=>World.cell?_of_block (pw2.grown.block _ (hb _ ha).2 (fun e=>by injection e with e;have:=(hb _ ha).1;omega))),fun b hb'=> ?_⟩;obtain⟨h1,h2⟩:=hb b hb';have:=pw2.size;exact⟨by omega,by omega⟩
def vk (K:Ctx)(n lvl:Nat):Prop:=∀p d W,PW K W p d false→(bK K.ws n).E lvl p d≠ .out→Calls Tryz.prog 151 #[.pointer (some ⟨K.g,0,none⟩), .int .i64 (lvl:Int)] W (PR K W d ((bK K.ws n).E lvl p d) (xI W))
theorem wF (K:Ctx)(hK:K.Ok)(n:Nat)(hS:yh K (bK K.ws (n+1)).S):vk K (n+1) 5:=by
 intro p d w pw hne;have he:(bK K.ws (n+1)).E 5 p d=(bK K.ws (n+1)).S p d:=rfl;rw[he] at hne⊢;have bel:=Fz.refl w.heap.size K.g w;have k99:=pw.aE;have e99:K.g=K.g:=rfl;have hlt:=pw.aE.lt;have hle:=hK.le;refine Zs 66 Tryz.func151 ?_;refine aw ?_;refine Zl aP ?_;intro g4 w1 n4;have e4:=Nat.le_trans bel.size n4.ge;have l4:=Nat.lt_of_lt_of_le k99.lt n4.ge;replace bel:=bel.step n4.below;replace k99:=k99.step n4.below;have k4:=n4.aE;refine bV 0 1 4 (aN ?_);refine Zc (Ze Tryz.func195) (nG _) ?_;rintro e w5 ⟨gl,rfl,hb5,-⟩;refine⟨_,rfl,?_⟩;replace bel:=bel.step hb5;replace k99:=k99.step hb5;replace k4:=k4.step hb5;refine Za ?_;refine bI 0 1 4 5 (bo (aw ?_));refine Zm ?_;refine Zm ?_;refine Zv (ah.len rfl rfl Tryz.underlying244) ?_;refine bF ?_;refine br 0 1 4 5 13 (Zt ?_);refine Cd.bb rfl (by decide) ?_;have hun:=hS p d _ (pw.to hle bel k99) hne;refine aw ?_;refine Zm ?_;rcases Rs.cB hne with ⟨q,ov,hr⟩|⟨x,q,hr⟩
 ·rw[hr] at hun
  refine Seq.bZ (Ze Tryz.func196) rfl hun ?_;rintro e w8 ⟨hf,rfl,d6,hp6⟩;refine⟨_,rfl,fun a ha=>⟨ha.defers,?_⟩⟩;rw[hr];exact⟨bel.call hf,rfl,d6,hp6⟩
 rw[hr] at hun⊢;have hk4:=k4.lt;have hsb:=bel.size;refine Zc (Ze Tryz.func196) (hun) ?_;rintro e wq ⟨hf,v6,rfl,pwq,S,hrep,hb⟩;refine⟨_,rfl,?_⟩;replace bel:=bel.call hf;replace k4:=k4.fz hf (by omega);obtain⟨AX,cX,hvX⟩:=hrep.form;subst hvX;have hlt2:=k4.lt;refine Zo 4 k4 ?_;intro w2 pw2;replace bel:=bel.put k4 pw2 e4;replace k4:=pw2.aE;refine br 0 1 4 5 13 (Zt (Cd.ret (ai.ar ?_)));refine jy 4 k4 Tryz.underlying105 ?_;refine⟨bel,_,rfl,⟨pwq.aE.put pw2 (by omega),pwq.rd.below (pw2.below (by omega) hlt2),pwq.cG,pwq.dm⟩,S,hrep.mono (fun _ h=>h) (fun a ha=>World.cell?_of_block (pw2.grown.block _ (hb _ ha).2 (fun e=>by injection e with e;have:=(hb _ ha).1;omega))),fun b hb'=> ?_⟩;obtain⟨h1,h2⟩:=hb b hb';have:=pw2.size;exact⟨by omega,by omega⟩
theorem uJ {ws:List Wd}{lvl p:Nat}(h:(eU ws p).kind≠0∨qe (cr lvl) (eU ws p).text<0):opAt ws lvl p=none:=by
 unfold opAt;split
 ·rfl
 ·rename_i hk
  rcases h with h|h
  ·exact absurd h hk
  ·unfold qe at h
   split at h
   ·omega
   ·rename_i hm
    rw[if_neg hm]
theorem tY {ws:List Wd}{lvl p:Nat}(h1:(eU ws p).kind=0)(h2:¬qe (cr lvl) (eU ws p).text<0):∃(i:Nat) (op:Int),qe (cr lvl) (eU ws p).text=(i:Int)∧i<(iK lvl).length∧(iK lvl)[i]? =some op∧opAt ws lvl p=some op∧bM op:=by
 have hlen:∀lvl,(cr lvl).length=(iK lvl).length:=fun lvl=>by
  unfold cr iK;split<;>rfl
 unfold qe at h2⊢;split at h2
 ·rename_i hm
  rw[if_pos hm];have hi:=List.idxOf_lt_length_of_mem hm;rw[hlen] at hi;obtain⟨op,hop⟩:∃op,(iK lvl)[(cr lvl).idxOf (eU ws p).text]? =some op:=⟨_,List.getElem?_eq_getElem hi⟩;refine⟨_,op,rfl,hi,hop,?_,?_⟩
  ·unfold opAt
   rw[if_neg (by simp[h1]),if_pos hm,hop]
  ·have hm2:=List.mem_of_getElem? hop
   have:∀lvl,∀x∈iK lvl,bM x:=fun lvl=>by
    unfold iK;split<;>simp[bM]
   exact this lvl op hm2
 ·omega
def eo (lo hi ex:Nat)(x:Ex)(v:Value)(W:World):Prop:=hi≤W.heap.size∧∃S:Nat→Prop,dH W S x v∧∀b,S b→lo<b∧b<hi∧b≠ex
theorem eo.dD {lo hi ex:Nat}{x:Ex}{v:Value}{W W':World}(m:eo lo hi ex x v W)(hs:W.heap.size≤W'.heap.size)(hb:∀b,lo<b→b<hi→b≠ex→W'.heap[b]? =W.heap[b]?):eo lo hi ex x v W':=by
 obtain⟨h0,S,h1,h2⟩:=m;exact⟨Nat.le_trans h0 hs,S,h1.mono (fun _ h=>h) (fun a ha=>World.cell?_of_block (hb _ (h2 _ ha).1 (h2 _ ha).2.1 (h2 _ ha).2.2)),h2⟩
theorem eo.step {lo hi ex:Nat}{x:Ex}{v:Value}{W W':World}(m:eo lo hi ex x v W)(h:Below W.heap.size W W'):eo lo hi ex x v W':=m.dD h.size fun b _ h2 _=>h.block b (Nat.lt_of_lt_of_le h2 m.1)
theorem eo.fz {lo hi ex g:Nat}{x:Ex}{v:Value}{W W':World}(m:eo lo hi ex x v W)(h:Fz W.heap.size g W W')(hg:g≤lo):eo lo hi ex x v W':=m.dD h.size fun b h1 h2 _=>h.block b (Nat.lt_of_lt_of_le h2 m.1) (by omega)
theorem eo.put {lo hi ex g:Nat}{x:Ex}{v:Value}{T:TypeId}{cur cs:Array Value}{W W':World}{E:Prop}(m:eo lo hi ex x v W)(_k:aQ W g T cur)(p:kW W W' g T cs)(_e:E)(hg:g≤lo∨g=ex∨hi≤g:=by omega):eo lo hi ex x v W':=
 m.dD (Nat.le_of_eq p.size.symm) fun b h1 h2 h3=>p.grown.block b (Nat.lt_of_lt_of_le h2 m.1) (fun e=>by injection e with e;omega)
theorem eo.but {lo hi ex g:Nat}{x:Ex}{v:Value}{W:World}(m:eo lo hi ex x v W)(hg:hi≤g):eo lo hi g x v W:=by
 obtain⟨h0,S,h1,h2⟩:=m;exact⟨h0,S,h1,fun b h=>⟨(h2 b h).1,(h2 b h).2.1,fun e=>by have:=(h2 b h).2.1;omega⟩⟩
theorem eo.up {lo hi ex:Nat}{x:Ex}{v:Value}{W:World}(m:eo lo hi ex x v W):eo lo W.heap.size ex x v W:=by
 obtain⟨h0,S,h1,h2⟩:=m;exact⟨Nat.le_refl _,S,h1,fun b h=>⟨(h2 b h).1,Nat.lt_of_lt_of_le (h2 b h).2.1 h0,(h2 b h).2.2⟩⟩
abbrev xu (x:Ex)(A:Option Addr)(c:Nat):Array Value:= #[.int .i64 x.op, .int .i64 x.n, .string (strOf x.name), .slice A x.args.length c]
theorem xc (K:Ctx)(hK:K.Ok)(n lvl:Nat)(hlt5:lvl<5)(hup:vk K (n+1) (lvl+1))(hall:∀m,m≤n→vk K m (lvl+1)):vk K (n+1) lvl:=by
 intro p d w pw hne;have he:=yf K.ws n lvl p d hlt5;obtain⟨R,hR⟩:∃R,R=(bK K.ws (n+1)).E lvl p d:=⟨_,rfl⟩;rw[←hR] at hne⊢;rw[←hR] at he;have bel:=Fz.refl w.heap.size K.g w;have k99:=pw.aE;have e99:K.g=K.g:=rfl;have hlt:=pw.aE.lt;have hle:=hK.le;have hlen:=hK.len;have hne1:(bK K.ws (n+1)).E (lvl+1) p d≠ .out:=Rs.ew (by rw[←he];exact hne);refine Zs 66 Tryz.func151 ?_;refine aw ?_;refine Zl aP ?_;intro g4 w1 n4;have e4:=Nat.le_trans bel.size n4.ge;have l4:=Nat.lt_of_lt_of_le k99.lt n4.ge;replace bel:=bel.step n4.below;replace k99:=k99.step n4.below;have k4:=n4.aE;refine bV 0 1 4 (aN ?_);refine Zc (Ze Tryz.func195) (nG _) ?_;rintro e wlv ⟨gl,rfl,hb5,hlv⟩;refine⟨_,rfl,?_⟩;obtain⟨ga,gb,cc,dd,csl,lv⟩:=hlv lvl hlt5;replace bel:=bel.step hb5;replace k99:=k99.step hb5;replace k4:=k4.step hb5;have kp:=Kp.refl wlv;refine Za ?_;refine bI 0 1 4 5 (bo (aw ?_));refine Zm ?_;refine Zm ?_;refine Zv (ah.len rfl rfl Tryz.underlying244) ?_;refine bF ?_;refine br 0 1 4 5 13 (Zt ?_);refine Cd.aR rfl (decide_eq_false (by omega)) ?_;refine Cd.skip (aN ?_);refine Zm ?_;refine Zm ?_;refine eS ?_;have hcl:=hup p d _ (pw.to hle bel k99) hne1;have hcast:((lvl+1:Nat):Int)=(lvl:Int)+1:=by omega
 rw[hcast] at hcl;rcases Rs.cB hne1 with ⟨q,ov,hr⟩|⟨x,q,hr⟩
 ·rw[hr] at hcl he
  refine Seq.bZ (Ze Tryz.func151) rfl hcl ?_;rintro e w8 ⟨hf,rfl,d6,hp6⟩;refine⟨_,rfl,fun a ha=>⟨ha.defers,?_⟩⟩;rw[he];exact⟨bel.call hf,rfl,d6,hp6⟩
 rw[hr] at hcl he;replace he:R=(bK K.ws (n+1)).L lvl x q d:=he;have hk4:=k4.lt;have hsb:=bel.size;refine Zc (Ze Tryz.func151) (hcl) ?_;rintro e wq ⟨hf,v6,rfl,pwq,S,hrep,hb⟩;refine⟨_,rfl,?_⟩;replace bel:=bel.call hf;replace k4:=k4.fz hf (by omega);replace kp:=kp.fz k99 hf;replace k99:=pwq.aE;obtain⟨AX,cX,hvX⟩:=hrep.form;subst hvX;have rs:eo g4 wq.heap.size 0 x (.agg (xu x AX cX)) wq:=⟨Nat.le_refl _,S,hrep,fun b h=>⟨by have:=(hb b h).1;omega,(hb b h).2,by have:=(hb b h).1;omega⟩⟩;refine Zl aP ?_;intro g6 w2 n6;have q6:=n6.ge;have e6:=Nat.le_trans bel.size n6.ge;have l6:=Nat.lt_of_lt_of_le k4.lt n6.ge;replace bel:=bel.step n6.below;replace k99:=k99.step n6.below;replace k4:=k4.step n6.below;replace kp:=kp.step n6.below;replace rs:=rs.step n6.below;have k6:=n6.aE;refine Zo 4 k6 ?_;intro w3 pw3;replace bel:=bel.put k6 pw3 e6;replace k99:=k99.put pw3 (by omega);replace k4:=k4.put pw3 (by omega);replace kp:=kp.put k6 pw3 e6;replace rs:=rs.put k6 pw3 e6;replace k6:=pw3.aE;refine cg 0 1 4 5 6 13 (Zt (Cd.block ?_));have h46:g4<g6:=by have:=hf.size;omega
 have h96:K.g<g6:=by omega
 refine Cd.loop (σ:=Nat × Ex × (Option Addr × Nat) × Nat) (fun s=>[(0, .pointer (some ⟨K.g,0,none⟩)),(1, .int .i64 (lvl:Int)),(4, .pointer (some ⟨g4,0,none⟩)),(5, .slice (some ⟨gl,0,none⟩) 5 5),(6, .pointer (some ⟨g6,0,none⟩))])
  (fun s wr=>PW K wr s.2.2.2 d false∧Fz w.heap.size K.g w wr∧aQ wr g4 105 #[.int .i64 0, .int .i64 0, .string {data:= #[]}, .slice none 0 0]∧aQ wr g6 105 (xu s.2.1 s.2.2.1.1 s.2.2.1.2)∧Kp wlv wr∧eo g4 wr.heap.size g6 s.2.1 (.agg (xu s.2.1 s.2.2.1.1 s.2.2.1.2)) wr∧s.1≤n+1∧R=(bK K.ws s.1).L lvl s.2.1 s.2.2.2 d)
  (fun s=>s.1) (n+1,x,(AX,cX),q) ⟨⟨k99,pw.rd.below (bel.below (by omega) hle),pwq.cG,pwq.dm⟩,bel,k4,k6,kp,(rs.but q6).up,Nat.le_refl _,he⟩ ⟨rfl,rfl,rfl,rfl,rfl,trivial⟩ ?_
 clear bel k4 k6 kp rs k99 he hne1 hr hcl;rintro⟨m,left,⟨AL,cL⟩,pl⟩ wr ⟨pw1,bel,k4,k6,kp,rs,hm,he⟩;dsimp only at pw1 k6 rs hm he⊢;have k99:=pw1.aE;have h4r:=k4.lt;have hkps:=kp.size
 obtain⟨m,rfl⟩:∃m',m=m'+1:=by
  cases m with
  |zero=>exact absurd he (by intro h;exact hne (by rw[h];rfl))
  |succ m=>exact⟨m,rfl⟩
 have hstep:R=eW K.ws (bK K.ws m) lvl left pl d:=he;clear he;obtain⟨b1,b2,b3⟩:=K.jM pl;obtain⟨a1,a2,a3,a4,a5⟩:=hK.at_ pl
 have hsig:∀t∈cr lvl,∀x∈t,x<256:=by
  have:∀lvl,∀t∈cr lvl,∀x∈t,x<256:=fun lvl=>by
   unfold cr;split<;>decide
  exact this lvl
 have hw:=fv K hK pl d false wr pw1;unfold zO at hw;refine Cd.block (aw ?_);refine Zm ?_;refine Zc (Ze Tryz.func164) (hw) ?_;rintro e w8 ⟨rfl,hb8⟩;refine⟨_,rfl,?_⟩;have hs8:=hb8.size;replace bel:=bel.step hb8;replace k99:=k99.step hb8;replace k4:=k4.step hb8;replace kp:=kp.step hb8;replace rs:=rs.step hb8;replace k6:=k6.step hb8;refine Zl bh ?_;intro g7 w4 n7;have q7:=n7.ge;have e7:=Nat.le_trans bel.size n7.ge;have l7:=Nat.lt_of_lt_of_le k6.lt n7.ge;replace bel:=bel.step n7.below;replace k99:=k99.step n7.below;replace k4:=k4.step n7.below;replace kp:=kp.step n7.below;replace rs:=rs.step n7.below;replace k6:=k6.step n7.below;have k7:=n7.aE;refine Zo 4 k7 ?_;intro w5 pw5;replace bel:=bel.put k7 pw5 e7;replace k99:=k99.put pw5 (by omega);replace k4:=k4.put pw5 (by omega);replace kp:=kp.put k7 pw5 e7;replace rs:=rs.put k7 pw5 e7;replace k6:=k6.put pw5 (by omega);replace k7:=pw5.aE;refine cg 0 1 4 5 6 7 (bo ?_)
 have haddL:Value.pointer (some ((⟨gl,0,none⟩:Addr).add (lvl*3)))= .pointer (some ⟨gl,lvl*3,none⟩):=by
  have:(⟨gl,0,none⟩:Addr).add (lvl*3)=⟨gl,lvl*3,none⟩:=by unfold Addr.add;split<;>simp_all
  rw[this]
 have hsl:(cr lvl).length≤1000:=by
  have:∀lvl,(cr lvl).length≤1000:=fun lvl=>by
   unfold cr;split<;>simp
  exact this lvl
 have hsv:(qc (cr lvl)).toArray.size=(cr lvl).length*1:=by simp[qc]
 refine iC 8 ?_;intro w6 hw6 zw6;replace bel:=bel.step hw6;replace k99:=k99.step hw6;replace k4:=k4.step hw6;replace kp:=kp.step hw6;replace rs:=rs.step hw6;replace k6:=k6.step hw6;replace k7:=k7.step hw6;have zbel:=bel.size;have zlt:=k7.lt;have kl:aQ _ gl 248 csl:=kp.aE lv.AS;have ksg:=kp.aE lv.sg;have kop:=kp.aE lv.op;refine gF ?_;refine gF ?_;refine Zd (fun w hG=>(ah.cJ rfl rfl rfl Tryz.underlying244 (s:=3) (by kernel_rfl) (j:=lvl) rfl (by omega)).cast haddL) ?_;refine Zd (fun w hG=>ah.gL 0 rfl rfl Tryz.underlying248 rfl (by kernel_rfl)) ?_;refine Zd (fun w hG=>ah.aB (g:=gl) (i:=lvl*3) rfl rfl Tryz.underlying66 rfl (kl.step hG) lv.s0) ?_;refine iZ 1 Tryz.underlying221 ?_;refine gg Tryz.underlying9 k7 ?_;refine Dr.dJ rfl (fun w=>Ze Tryz.func139) rfl (fun w hG=>sA (cr lvl) (K.at_ pl).text (some ⟨ga,0,none⟩) cc w.heap.size w (Reads.aE (ksg.step hG) _ hsv) (Nat.le_refl _) hsl hsig a3) ?_;refine Dr.nil ?_;refine cD.done (F':=[(0,_),(1,_),(4,_),(5,_),(6,_),(7,_),(29,_)]) rfl ⟨rfl,rfl,rfl,rfl,rfl,rfl,rfl,trivial⟩ ?_;intro w7 hw7 fw7;replace bel:=bel.step hw7;replace k99:=k99.step hw7;replace k4:=k4.step hw7;replace kp:=kp.step hw7;replace rs:=rs.step hw7;replace k6:=k6.step hw7;replace k7:=k7.step hw7;clear kl ksg kop;refine Za ?_;refine bU 0 1 4 5 6 7 8 (bo (aw ?_));refine Zf 0 Tryz.underlying221 ?_;refine ZL Tryz.underlying3 k7 ?_;refine po ?_;refine Zm ?_;refine aJ.start ?_;refine cF (fun hcx=>ah.move rfl rfl) ?_;refine Zn (fun hcx=>ah.lss rfl rfl rfl) ?_;refine gS ?_;refine db 0 1 4 5 6 7 8 36 (Zt ?_);have pwc:PW K _ pl d false:=⟨k99,pw.rd.below (bel.below (by omega) hle),pw1.cG,pw1.dm⟩;refine Cd.cond rfl (fun hc=> ?_) (fun hc=> ?_)
 ·have hop:opAt K.ws lvl pl=none:=uJ (by
   rw[←b1,←b2]
   simpa using hc)
  have hres:R= .ok left pl:=by rw[hstep];unfold eW;rw[hop]
  have hlt4:=k4.lt;have hlt6:=k6.lt;refine aw ?_;refine ZW 4 Tryz.underlying105 k6 ?_;refine Zo 4 k4 ?_;intro w8 pw8;replace bel:=bel.put k4 pw8 e4;replace k99:=k99.put pw8 (by omega);replace kp:=kp.put k4 pw8 e4;replace rs:=rs.put k4 pw8 e4;replace k6:=k6.put pw8 (by omega);replace k7:=k7.put pw8 (by omega);replace k4:=pw8.aE;refine db 0 1 4 5 6 7 8 36 (Zt (Cd.ret (ai.ar (ai.au (ai.bL (ai.au ?_))))));refine jy 4 k4 Tryz.underlying105 ?_;rw[hres];have kk:=k99;obtain⟨hhi,S',hrep',hb'⟩:=rs;exact⟨bel,_,rfl,⟨k99,pw.rd.below (bel.below (by omega) hle),pw1.cG,pw1.dm⟩,S',hrep',fun b h=>⟨by have:=(hb' b h).1;omega,by have:=(hb' b h).2.1;omega⟩⟩
 obtain⟨hk0,hix⟩:(eU K.ws pl).kind=0∧¬qe (cr lvl) (eU K.ws pl).text<0:=by
  rw[←b1,←b2]
  simpa using hc
 obtain⟨ix,op,hix1,hix2,hopi,hop,hop64⟩:=tY hk0 hix;rw[←b2] at hix1;have hstep2:R=((bK K.ws m).E (lvl+1) (pl+1) d).bind fun r p=>if lvl=2 then .ok (xL op left r) p else(bK K.ws m).L lvl (xL op left r) p d:=by rw[hstep];unfold eW;rw[hop]
 have hp1:pl+1≤K.ws.length:=by
  rcases Nat.lt_or_ge pl K.ws.length with h|h
  ·exact h
  ·have h1:eU K.ws pl=⟨-1,[],0,0⟩:=by unfold eU;rw[List.getD_eq_getElem?_getD,List.getElem?_eq_none h];rfl
   rw[h1] at hk0;exact absurd hk0 (by decide)
 have hne2:(bK K.ws m).E (lvl+1) (pl+1) d≠ .out:=Rs.ew (by rw[←hstep2];exact hne);rw[hix1];refine Cd.skip (aN ?_);refine Zm ?_;refine Zv (ah.nilCheck rfl rfl) ?_;refine Zf 1 Tryz.underlying219 ?_;refine ZL Tryz.underlying3 k99 ?_;refine eS ?_;refine Zv (ah.nilCheck rfl rfl) ?_;refine Zf 1 Tryz.underlying219 ?_;refine Zq k99 ?_;intro w8 pw8;replace bel:=bel.put k99 pw8 e99;replace k4:=k4.put pw8 (by omega);replace kp:=kp.put k99 pw8 e99;replace rs:=rs.put k99 pw8 e99;replace k6:=k6.put pw8 (by omega);replace k7:=k7.put pw8 (by omega);replace k99:=pw8.aE;refine db 0 1 4 5 6 7 8 36 (bo ?_);have kl:aQ _ gl 248 csl:=kp.aE lv.AS;have kop:=kp.aE lv.op
 have haddI:Value.pointer (some ((⟨gb,0,none⟩:Addr).add ix))= .pointer (some ⟨gb,ix,none⟩):=by
  have:(⟨gb,0,none⟩:Addr).add ix=⟨gb,ix,none⟩:=by unfold Addr.add;split<;>simp_all
  rw[this]
 have hopc:(DI (iK lvl)).toArray[ix]? =some (.int .i64 op):=by
  rw[List.getElem?_toArray,zG,hopi];rfl
 have pwn:PW K w8 (pl+1) d false:=⟨by rw[Int.natCast_add];exact k99,pw.rd.below (bel.below (by omega) hle),hp1,pw1.dm⟩;have hw8g:K.g<w8.heap.size:=k99.lt;have hxl:=hall m (by omega);refine Cd.lV (σT:=Value × (Nat→Prop) × Nat) 15 (by kernel_rfl) rfl rfl (fun σ=>[.slice (some ⟨gl,0,none⟩) 5 5, .int .i64 (lvl:Int), .pointer (some ⟨gl,lvl*3,none⟩), .pointer (some ⟨gl,lvl*3+1,none⟩), .slice (some ⟨gb,0,none⟩) (iK lvl).length dd, .int .i64 (ix:Int), .pointer (some ⟨gb,ix,none⟩), .int .i64 op, .agg (xu left AL cL), .pointer (some ⟨K.g,0,none⟩), .int .i64 (lvl:Int), .int .i64 ((lvl:Int)+1),σ.1, .slice (some ⟨σ.2.2,0,none⟩) 2 2, .agg #[.int .i64 op, .int .i64 0, .string (strOf []), .slice (some ⟨σ.2.2,0,none⟩) 2 2]]) (fun σ S W=>XA dH K w8 (pl+1) d ((bK K.ws m).E (lvl+1) (pl+1) d) (S 12) (S 13) σ.2.1 σ.1 σ.2.2 105 (aU [.agg (xu left AL cL),σ.1]).toArray W) ((undef,fun _=>False,0)) ?_ ?_ ?_
 ·intro w0 hb0 hs0
  exact⟨Fz.of hb0,fun _=>pwn.step hle hb0,fun h=>(by cases h),fun h=>(by cases h)⟩
 ·intro k o ho
  match k,ho with
  |0,ho=>
   injection ho with ho
   subst ho;intro σ S w hS hpre hdc hX;refine Seq.val (ah.move rfl rfl) rfl rfl rfl (Seq.nil ?_);exact ai.aO rfl rfl rfl hpre rfl (fun _ _=>rfl) hX
  |1,ho=>
   injection ho with ho
   subst ho;intro σ S w hS hpre hdc hX;refine Seq.val (ah.move rfl rfl) rfl rfl rfl (Seq.nil ?_);exact ai.aO rfl rfl rfl hpre rfl (fun _ _=>rfl) hX
  |2,ho=>
   injection ho with ho
   subst ho;intro σ S w hS hpre hdc hX;refine Seq.val ((ah.cJ rfl rfl rfl Tryz.underlying244 (s:=3) (by kernel_rfl) (j:=lvl) rfl (by omega)).cast haddL) rfl rfl rfl (Seq.nil ?_);exact ai.aO rfl rfl rfl hpre rfl (fun _ _=>rfl) hX
  |3,ho=>
   injection ho with ho
   subst ho;intro σ S w hS hpre hdc hX;refine Seq.val (ah.gL 1 rfl rfl Tryz.underlying248 rfl (by kernel_rfl)) rfl rfl rfl (Seq.nil ?_);exact ai.aO rfl rfl rfl hpre rfl (fun _ _=>rfl) hX
  |4,ho=>
   injection ho with ho
   subst ho;intro σ S w hS hpre hdc hX;refine Seq.val (ah.aB (g:=gl) (i:=lvl*3+1) rfl rfl Tryz.underlying96 rfl (kl.uT k99 hX.fz (Nat.le_refl _)) lv.s1) rfl rfl rfl (Seq.nil ?_);exact ai.aO rfl rfl rfl hpre rfl (fun _ _=>rfl) hX
  |5,ho=>
   injection ho with ho
   subst ho;intro σ S w hS hpre hdc hX;refine Seq.val (ah.move rfl rfl) rfl rfl rfl (Seq.nil ?_);exact ai.aO rfl rfl rfl hpre rfl (fun _ _=>rfl) hX
  |6,ho=>
   injection ho with ho
   subst ho;intro σ S w hS hpre hdc hX;refine Seq.val ((ah.m5 rfl rfl rfl Tryz.underlying96 (by kernel_rfl) (j:=ix) rfl hix2).cast haddI) rfl rfl rfl (Seq.nil ?_);exact ai.aO rfl rfl rfl hpre rfl (fun _ _=>rfl) hX
  |7,ho=>
   injection ho with ho
   subst ho;intro σ S w hS hpre hdc hX;refine Seq.val (ah.aB (g:=gb) (i:=ix) rfl rfl Tryz.underlying3 rfl (kop.uT k99 hX.fz (Nat.le_refl _)) hopc) rfl rfl rfl (Seq.nil ?_);exact ai.aO rfl rfl rfl hpre rfl (fun _ _=>rfl) hX
  |8,ho=>
   injection ho with ho
   subst ho;intro σ S w hS hpre hdc hX;refine Seq.val (ah.fp rfl rfl Tryz.underlying105 rfl (k6.fz hX.fz (by omega)) (m:=4) (by kernel_rfl) rfl) rfl rfl rfl (Seq.nil ?_);exact ai.aO rfl rfl rfl hpre rfl (fun _ _=>rfl) hX
  |9,ho=>
   injection ho with ho
   subst ho;intro σ S w hS hpre hdc hX;refine Seq.val (ah.move rfl rfl) rfl rfl rfl (Seq.nil ?_);exact ai.aO rfl rfl rfl hpre rfl (fun _ _=>rfl) hX
  |10,ho=>
   injection ho with ho
   subst ho;intro σ S w hS hpre hdc hX;refine Seq.val (ah.move rfl rfl) rfl rfl rfl (Seq.nil ?_);exact ai.aO rfl rfl rfl hpre rfl (fun _ _=>rfl) hX
  |11,ho=>
   injection ho with ho
   subst ho;intro σ S w hS hpre hdc hX;refine Seq.val (ah.oA rfl rfl rfl (by omega) (by omega)) rfl rfl rfl (Seq.nil ?_);exact ai.aO rfl rfl rfl hpre rfl (fun _ _=>rfl) hX
  |12,ho=>
   injection ho with ho
   subst ho;intro σ S w hS hpre hdc hX
   have h13:S 13=false:=by
    cases h:S 13 with
    |false=>rfl
    |true=>have:=hdc 13 _ rfl h 12 (aI rfl);rw[hS] at this;cases this
   have hcl:=hxl (pl+1) d w (hX.pre hS) hne2;rw[hcast] at hcl;rcases Rs.cB hne2 with ⟨q2,ov,hr⟩|⟨y,q2,hr⟩
   ·rw[hr] at hcl
    refine Seq.bZ (Ze Tryz.func151) rfl hcl ?_;rintro e w6 ⟨hf,rfl,d6,hp6⟩;refine⟨_,rfl,fun a ha=>⟨ha.defers,?_⟩⟩;rw[hstep2,hr];exact⟨bel.call (hX.fz.call hf),rfl,d6,hp6⟩
   ·rw[hr] at hcl
    refine Zc (Ze Tryz.func151) hcl ?_;rintro e w6 ⟨hf,v6,rfl,hp6,S6,hr6,hb6⟩;refine⟨_,rfl,Seq.nil ?_⟩;have hsz:=hX.fz.size;refine ai.aO (σ:=σ) (σ':=(v6,S6,σ.2.2)) rfl rfl rfl hpre rfl (fun j hj=> ?_) ⟨hX.fz.call hf,(fun h=>by cases h),fun _=>⟨y,q2,hr,hp6,hr6,fun b hb=>⟨by have:=(hb6 b hb).1;omega,(hb6 b hb).2⟩⟩,fun hm=> ?_⟩
    ·match j,hj with
     |0,_=>rfl
     |1,_=>rfl
     |2,_=>rfl
     |3,_=>rfl
     |4,_=>rfl
     |5,_=>rfl
     |6,_=>rfl
     |7,_=>rfl
     |8,_=>rfl
     |9,_=>rfl
     |10,_=>rfl
     |11,_=>rfl
     |12,hj=>rw[hS] at hj;cases hj
     |13,_=>rfl
     |14,_=>rfl
     |j+15,_=>rfl
    ·have hm:S 13=true:=hm
     rw[h13] at hm;cases hm
  |13,ho=>
   injection ho with ho
   subst ho;intro σ S w hS hpre hdc hX;obtain⟨y,q2,q1,pz,q3,q4⟩:=hX.post (hpre 12 (aI rfl));have hones:=q3.bE
   have h14:S 14=false:=by
    cases h:S 14 with
    |false=>rfl
    |true=>have:=hdc 14 _ rfl h 13 (aI rfl);rw[hS] at this;cases this
   refine Seq.slice (vs:=[.agg (xu left AL cL),σ.1]) (s:=4) rfl rfl rfl Tryz.underlying68 (by kernel_rfl) aP (by omega) (by omega) ⟨rfl,hones.1,trivial⟩ rfl rfl rfl ?_;intro g7 w' n7;refine Seq.nil ?_;have hsz:=hX.fz.size;refine ai.aO (σ:=σ) (σ':=(σ.1,σ.2.1,g7)) rfl rfl rfl hpre rfl (fun j hj=> ?_) ⟨hX.fz.step n7.below,fun h=>(hX.pre h).step hle n7.below,fun h=> ?_,fun _=>⟨Nat.le_trans hsz n7.ge,n7.aE,fun h hb=> ?_⟩⟩
   ·match j,hj with
    |0,_=>rfl
    |1,_=>rfl
    |2,_=>rfl
    |3,_=>rfl
    |4,_=>rfl
    |5,_=>rfl
    |6,_=>rfl
    |7,_=>rfl
    |8,_=>rfl
    |9,_=>rfl
    |10,_=>rfl
    |11,_=>rfl
    |12,_=>rfl
    |13,hj=>rw[hS] at hj;cases hj
    |14,hj=>rw[h14] at hj;cases hj
    |j+15,_=>rfl
   ·exact⟨y,q2,q1,pz.step hle n7.below,q3.mono (fun _ h=>h) (fun a ha=>n7.below.cell (q4 _ ha).2),fun b hb=>⟨(q4 b hb).1,Nat.lt_of_lt_of_le (q4 b hb).2 n7.below.size⟩⟩
   ·exact Nat.lt_irrefl _ (Nat.lt_of_lt_of_le (q4 _ hb).2 n7.ge)
  |14,ho=>
   injection ho with ho
   subst ho;intro σ S w hS hpre hdc hX;refine Seq.val (ah.build rfl rfl (rQ _ _ _)) rfl rfl rfl (Seq.nil ?_);exact ai.aO rfl rfl rfl hpre rfl (fun _ _=>rfl) hX
  |k+15,ho=>simp at ho
 rintro⟨vy,Sy,g58⟩ S2 wz hS2 hX;obtain⟨y,q2,hr2,pwz,hrepy,hby⟩:=hX.post (hS2 12 (by decide));obtain⟨e58,k58,hn58⟩:=hX.new (hS2 13 (by decide));dsimp only at hrepy hby e58 k58 hn58;have hn58:=hn58 (hS2 12 (by decide));have fzz:=hX.fz;clear hX;have hs8:=bel.size;have hszz:=fzz.size;have hl4:=k4.lt;have hl6:=k6.lt;have belz:=bel.call fzz;have k4z:=k4.fz fzz (by omega);have k6z:=k6.fz fzz (by omega);have kpz:=kp.fz k99 fzz;have rsz:=rs.fz fzz (by omega);obtain⟨AY,cY,hvY⟩:=hrepy.form;subst hvY;obtain⟨hhi,Sl,hrepl,hbl⟩:=rsz;have hhi8:=rs.1;have hadd58:(⟨g58,0,none⟩:Addr).add=fun j=>⟨g58,j,none⟩:=by funext j;unfold Addr.add;split<;>simp_all
 have rs2:eo g4 wz.heap.size g6 (xL op left y) (.agg (xu (xL op left y) (some ⟨g58,0,none⟩) 2)) wz:=by
  refine⟨Nat.le_refl _,fun b=>Sl b∨Sy b∨b=g58,dH.mk (args:=[left,y]) (vs:=[.agg (xu left AL cL), .agg (xu y AY cY)]) rfl (by simp) hop64 (by unfold bM;omega) (by simp) (by simp) (fun i e v h1 h2=> ?_) (fun _=>⟨⟨g58,0,none⟩,rfl, .inr (.inr rfl),fun j u hu=> ?_⟩),fun b hb=> ?_⟩
  ·match i,h1,h2 with
   |0,h1,h2=>
    simp at h1 h2;subst h1 h2;exact hrepl.mono (fun _ h=> .inl h) (fun _ _=>rfl)
   |1,h1,h2=>
    simp at h1 h2;subst h1 h2;exact hrepy.mono (fun _ h=> .inr (.inl h)) (fun _ _=>rfl)
   |i+2,h1,_=>simp at h1
  ·rw[hadd58,k58.cell j]
   have hu2:(aU [Value.agg (xu left AL cL),Value.agg (xu y AY cY)]).toArray[j]? =some u:=by simpa using hu
   exact hu2
  ·rcases hb with hb|hb|rfl
   ·obtain⟨h1,h2,h3⟩:=hbl b hb
    exact⟨h1,by omega,h3⟩
   ·obtain⟨h1,h2⟩:=hby b hb
    exact⟨by omega,h2,by omega⟩
   ·exact⟨by omega,k58.lt,by omega⟩
 have hstep3:R=if lvl=2 then .ok (xL op left y) q2 else(bK K.ws m).L lvl (xL op left y) q2 d:=by rw[hstep2,hr2];rfl
 clear bel k4 k6 kp rs k99 k7 kl kop;have bel:=belz;have k4:=k4z;have k6:=k6z;have kp:=kpz;have rs:=rs2;have k99:=pwz.aE;refine Zo 4 k6 ?_;intro w9 pw9;replace bel:=bel.put k6 pw9 e6;replace kp:=kp.put k6 pw9 e6;replace rs:=rs.put k6 pw9 e6;replace k99:=k99.put pw9 (by omega);replace k4:=k4.put pw9 (by omega);replace k6:=pw9.aE;refine db 0 1 4 5 6 7 8 36 (aN ?_);refine Zm ?_;refine Zm ?_;have kl:aQ _ gl 248 csl:=kp.aE lv.AS;refine Zv ((ah.cJ rfl rfl rfl Tryz.underlying244 (s:=3) (by kernel_rfl) (j:=lvl) rfl (by omega)).cast haddL) ?_;refine Zv (ah.gL 2 rfl rfl Tryz.underlying248 rfl (by kernel_rfl)) ?_;refine Zv (ah.aB (g:=gl) (i:=lvl*3+2) rfl rfl Tryz.underlying4 rfl kl lv.s2) ?_;refine eP 0 1 4 5 6 7 8 36 64 (Zt ?_);refine Cd.aF rfl (fun h2=> ?_) (fun h2=> ?_)
 ·rw[if_pos h2] at hstep3
  have hlt4:=k4.lt;refine aw ?_;refine ZW 4 Tryz.underlying105 k6 ?_;refine Zo 4 k4 ?_;intro w10 pw10;replace bel:=bel.put k4 pw10 e4;replace kp:=kp.put k4 pw10 e4;replace rs:=rs.put k4 pw10 e4;replace k99:=k99.put pw10 (by omega);replace k6:=k6.put pw10 (by omega);replace k4:=pw10.aE;refine eP 0 1 4 5 6 7 8 36 64 (Zt (Cd.ret (ai.au (ai.bL (ai.au ?_)))));refine jy 4 k4 Tryz.underlying105 ?_;rw[hstep3];obtain⟨hhi2,S',hrep',hb'⟩:=rs;exact⟨bel,_,rfl,⟨k99,pw.rd.below (bel.below (by omega) hle),pwz.cG,pwz.dm⟩,S',hrep',fun b h=>⟨by have:=(hb' b h).1;omega,by have:=(hb' b h).2.1;omega⟩⟩
 ·rw[if_neg h2] at hstep3
  refine Cd.skip (ai.av ?_);exact ai.round (m,xL op left y,(some ⟨g58,0,none⟩,2),q2) ⟨rfl,rfl,rfl,rfl,rfl,trivial⟩ ⟨⟨k99,pw.rd.below (bel.below (by omega) hle),pwz.cG,pwz.dm⟩,bel,k4,k6,kp,rs.up,by dsimp only;omega,hstep3⟩ (by dsimp only;omega)
theorem yl (K:Ctx)(hK:K.Ok)(n:Nat):(∀m,m≤n→yh K (bK K.ws m).S∧∀lvl,lvl≤5→vk K m lvl):=by
 induction n with
 |zero=>
  intro m hm;obtain rfl:m=0:=by omega
  exact⟨fun p d W _ h=>absurd rfl h,fun lvl _ p d W _ h=>absurd rfl h⟩
 |succ n ih=>
  intro m hm;rcases Nat.lt_or_ge m (n+1) with h|h
  ·exact ih m (by omega)
  obtain rfl:m=n+1:=by omega
  obtain⟨i1,i2⟩:=ih n (Nat.le_refl _)
  have hS:yh K (bK K.ws (n+1)).S:=fun p d W hp hne=>by
   have e:(bK K.ws (n+1)).S p d=dt K.ws (bK K.ws n).S ((bK K.ws n).E 0) p d:=rfl;rw[e] at hne⊢;exact tZ K hK _ _ i1 (fun p d W hp hne=>i2 0 (by omega) p d W hp hne) p d W hp hne
  refine⟨hS,fun lvl hl=> ?_⟩
  have key:∀j lvl,lvl+j=5→vk K (n+1) lvl:=by
   intro j
   induction j with
   |zero=>intro lvl h;obtain rfl:lvl=5:=(by omega);exact wF K hK n hS
   |succ j ihj=>intro lvl h;exact xc K hK n lvl (by omega) (ihj (lvl+1) (by omega)) (fun m hm=>(ih m hm).2 (lvl+1) (by omega))
  exact key (5-lvl) lvl (by omega)
def oX (x:Nat × Nat × Nat):Value:= .func (.func x.1) #[] #[.pointer (some ⟨x.2.1,0,none⟩), .pointer (some ⟨x.2.2,0,none⟩)]
def yE (K:Ctx)(gt:Nat)(x:Nat × Nat × Nat)(W:World):Prop:=aQ W x.2.1 227 #[.pointer (some ⟨gt,0,none⟩)]∧aQ W x.2.2 189 #[.pointer (some ⟨K.g,0,none⟩)]
def mf (K:Ctx)(gt:Nat)(L:List (Nat × Nat × Nat))(W:World):Prop:=∀x∈L,yE K gt x W
theorem mf.step {K:Ctx}{gt:Nat}{L:List (Nat × Nat × Nat)}{W W':World}(h:mf K gt L W)(hb:Below W.heap.size W W'):mf K gt L W':=fun x hx=>⟨(h x hx).1.step hb,(h x hx).2.step hb⟩
theorem mf.app {K:Ctx}{gt B B' n size:Nat}{v:Value}{xs:List Value}{L:List (Nat × Nat × Nat)}{W W':World}(h:mf K gt L W)(o:Own W B 1 size v n xs)(ha:App W W' B' v):mf K gt L W':=fun x hx=>⟨(h x hx).1.app o ha,(h x hx).2.app o ha⟩
theorem mf.snoc {K:Ctx}{gt:Nat}{L:List (Nat × Nat × Nat)}{W:World}{x:Nat × Nat × Nat}(h:mf K gt L W)(hx:yE K gt x W):mf K gt (L++[x]) W:=fun y hy=>by
 rcases List.mem_append.1 hy with hy|hy
 ·exact h y hy
 ·obtain rfl:=List.mem_singleton.1 hy
  exact hx
theorem wH (K:Ctx)(gt:Nat)(w:World):Calls Tryz.prog 171 #[.pointer (some ⟨K.g,0,none⟩), .pointer (some ⟨gt,0,none⟩)] w fun e w'=>(∃a b,e= .returned (oX (212,a,b))∧yE K gt (212,a,b) w')∧Grow w w':=by
 have bel:=Below.refl w.heap.size w;refine Zs 6 Tryz.func171 ?_;refine aw ?_;refine Seq.box rfl rfl rfl rfl rfl ?_;intro g2 w1 n2;have e2:=Nat.le_trans bel.size n2.ge;replace bel:=bel.step n2.below;have k2:=n2.aE;refine Seq.box rfl rfl rfl rfl rfl ?_;intro g3 w2 n3;have e3:=Nat.le_trans bel.size n3.ge;have l3:=Nat.lt_of_lt_of_le k2.lt n3.ge;replace bel:=bel.step n3.below;replace k2:=k2.step n3.below;have k3:=n3.aE;refine Za ?_;refine br 0 1 2 3 4 (aN ?_);refine Zv (ah.makeFunc (v:= .func (.func 212) #[] #[.pointer (some ⟨g3,0,none⟩), .pointer (some ⟨g2,0,none⟩)]) rfl (show gx _ _=some [] from rfl) (show gx _ _=some [.pointer (some ⟨g3,0,none⟩), .pointer (some ⟨g2,0,none⟩)] from rfl) rfl) ?_;refine Za ?_;refine br 0 1 2 3 4 (Zt (Cd.ret ?_));refine bQ ?_;exact⟨⟨_,_,rfl,k3,k2⟩,bel⟩
theorem uK (K:Ctx)(gt:Nat)(w:World):Calls Tryz.prog 170 #[.pointer (some ⟨K.g,0,none⟩), .pointer (some ⟨gt,0,none⟩)] w fun e w'=>(∃a b,e= .returned (oX (211,a,b))∧yE K gt (211,a,b) w')∧Grow w w':=by
 have bel:=Below.refl w.heap.size w;refine Zs 6 Tryz.func170 ?_;refine aw ?_;refine Seq.box rfl rfl rfl rfl rfl ?_;intro g2 w1 n2;have e2:=Nat.le_trans bel.size n2.ge;replace bel:=bel.step n2.below;have k2:=n2.aE;refine Seq.box rfl rfl rfl rfl rfl ?_;intro g3 w2 n3;have e3:=Nat.le_trans bel.size n3.ge;have l3:=Nat.lt_of_lt_of_le k2.lt n3.ge;replace bel:=bel.step n3.below;replace k2:=k2.step n3.below;have k3:=n3.aE;refine Za ?_;refine br 0 1 2 3 4 (aN ?_);refine Zv (ah.makeFunc (v:= .func (.func 211) #[] #[.pointer (some ⟨g3,0,none⟩), .pointer (some ⟨g2,0,none⟩)]) rfl (show gx _ _=some [] from rfl) (show gx _ _=some [.pointer (some ⟨g3,0,none⟩), .pointer (some ⟨g2,0,none⟩)] from rfl) rfl) ?_;refine Za ?_;refine br 0 1 2 3 4 (Zt (Cd.ret ?_));refine bQ ?_;exact⟨⟨_,_,rfl,k3,k2⟩,bel⟩
theorem zH:∀args w,(callFunc 212 args).run Tryz.prog w= .ok (.enter 212 args) w:=fun args w=>bc Tryz.func212 (by kernel_rfl) rfl args w
theorem yH:∀args w,(callFunc 211 args).run Tryz.prog w= .ok (.enter 211 args) w:=fun args w=>bc Tryz.func211 (by kernel_rfl) rfl args w
theorem wK:∀args w,(callFunc 167 args).run Tryz.prog w= .ok (.enter 167 args) w:=fun args w=>bc Tryz.func167 (by kernel_rfl) rfl args w
theorem tW (K:Ctx)(hK:K.Ok)(h0 gt b1 d p:Nat)(op:Int)(nm:List Nat)(vE vT:Value)(w:World)(pw:PW K w p d false)(hg0:K.g<h0)(hgt:h0≤gt)(hh:h0≤w.heap.size)(kt:aQ w gt 71 #[.int .i64 op, .string (strOf nm),vE,vT]) (kb1:aQ w b1 189 #[.pointer (some ⟨K.g,0,none⟩)]):
  Calls Tryz.prog 167 #[.pointer (some ⟨b1,0,none⟩), .pointer (some ⟨gt,0,none⟩)] w (rF K h0 w d (eV K.ws p) fun x _ W'=>Kp w W'∧aQ W' gt 71 #[.int .i64 op, .string (strOf x),vE,vT]):=by
 have hle:=hK.le;have bel:=Fz.refl w.heap.size K.g w;have k1:=kb1;have hcl:=rE K hK p d w pw;have hgl:=kt.lt;have hpl:=pw.aE.lt;refine Zs 5 Tryz.func167 ?_;refine Zr ?_;refine ZL Tryz.underlying189 k1 ?_;rcases Rs.cB (rb K.ws p) with ⟨q,ov,hr⟩|⟨x,q,hr⟩
 ·rw[hr] at hcl
  refine Seq.bZ (Ze Tryz.func168) rfl hcl ?_;rintro e w6 ⟨hf,rfl,d6,hp6⟩;refine⟨_,rfl,fun a ha=>⟨ha.defers,?_⟩⟩;rw[hr];exact⟨hf.less hh,rfl,d6,hp6⟩
 rw[hr] at hcl⊢;refine Zc (Ze Tryz.func168) (hcl) ?_;rintro e wq ⟨hf,v6,rfl,pwq,rfl⟩;refine⟨_,rfl,?_⟩;clear bel k1;have bel:Fz h0 K.g w wq:=hf.less hh;have kp:=(Kp.refl w).fz pw.aE hf;have k2:=kt.fz hf (by omega);have k99:=pwq.aE;have e2:h0≤gt:=hgt;have loc:Fz h0 K.g wq wq:=Fz.refl _ _ _;refine Zf 1 Tryz.underlying71 ?_;refine Zq k2 ?_;intro w1 pw1;replace bel:=bel.put k2 pw1 e2;replace kp:=kp.put k2 pw1 e2;replace k99:=k99.put pw1 (by omega);replace loc:=loc.put k2 pw1 e2;replace k2:=pw1.aE;refine eh 0 1 ?_;refine ai.fq rfl (.inr rfl) ?_;exact⟨bel,_,rfl,⟨k99,pwq.rd.below (loc.below (by omega) hle),pwq.cG,pwq.dm⟩,kp,k2⟩
def Ac (K:Ctx)(T0:Nat→Nat→Rs Tm):Prop:=∀p d W,PW K W p d false→T0 p d≠ .out→Calls Tryz.prog 128 #[.pointer (some ⟨K.g,0,none⟩)] W (PR K W d (T0 p d) (Aw W))
theorem qq (w:World):(Instr.build 71 #[(0, .int .i64 1)]).run Tryz.prog w= .ok (.agg #[.int .i64 1, .string (strOf []), .slice none 0 0, .slice none 0 0]) w:=by kernel_rfl
theorem rF.Ar {α:Type}{K:Ctx}{h d:Nat}{w w':World}{r:Rs α}{ok1 ok2:α→Value→World→Prop}{e:Ending}(hr:rF K h w d r ok1 e w')(hm:∀a p v w',r= .ok a p→ok1 a v w'→ok2 a v w'):rF K h w d r ok2 e w':=by
 refine⟨hr.1,?_⟩
 cases r with
 |out=>exact hr.2
 |bad p o=>exact hr.2
 |ok a p=>obtain⟨v,h1,h2,h3⟩:=hr.2;exact⟨v,h1,h2,hm _ _ _ _ rfl h3⟩
theorem vR {K:Ctx}(hK:K.Ok){p q:Nat}{x:List Nat}(h:eV K.ws p= .ok x q):(∀c∈x,c<256)∧x.length≤4000:=by
 obtain⟨a1,a2,a3,a4,a5⟩:=hK.at_ p;obtain⟨b1,b2,b3⟩:=K.jM p;unfold eV at h;split at h
 ·injection h with h
  rw[←h,←b2];exact⟨a3,a4⟩
 ·cases h
theorem rF.map {α β:Type}{K:Ctx}{h d:Nat}{w w':World}{r:Rs α}{f:α→β}{ok1:α→Value→World→Prop}{ok2:β→Value→World→Prop}{e:Ending}(hr:rF K h w d r ok1 e w')(hm:∀a v w',ok1 a v w'→ok2 (f a) v w'):rF K h w d (r.map f) ok2 e w':=by
 refine⟨hr.1,?_⟩
 cases r with
 |out=>exact hr.2
 |bad p o=>exact hr.2
 |ok a p=>obtain⟨v,h1,h2,h3⟩:=hr.2;exact⟨v,h1,h2,hm _ _ _ h3⟩
theorem wU (K:Ctx)(hK:K.Ok)(E0:Nat→Nat→Rs Ex)(T0:Nat→Nat→Rs Tm)(hE:yR K E0)(hT:Ac K T0)(p d:Nat)(w:World)(pw:PW K w p d false)(hne:gh K.ws E0 T0 p d≠ .out):
  Calls Tryz.prog 128 #[.pointer (some ⟨K.g,0,none⟩)] w (PR K w d (gh K.ws E0 T0 p d) (Aw w)):=by
 have bel:=Fz.refl w.heap.size K.g w;have k99:=pw.aE;have e99:K.g=K.g:=rfl;have hlt:=pw.aE.lt;have hlen:=hK.len;have hle:=hK.le;have hpl:=pw.cG;obtain⟨a1,a2,a3,a4,a5⟩:=hK.at_ p;obtain⟨b1,b2,b3⟩:=K.jM p;have hw:=fun W h=>fv K hK p d false W h;unfold zO at hw;obtain⟨op,hop⟩:∃op,op=(eF (K.at_ p).text).1:=⟨_,rfl⟩;obtain⟨ne,hnE⟩:∃ne,ne=(eF (K.at_ p).text).2.1:=⟨_,rfl⟩;obtain⟨ns,hnS⟩:∃ns,ns=(eF (K.at_ p).text).2.2:=⟨_,rfl⟩
 have hq:gh K.ws E0 T0 p d=if(K.at_ p).kind≠3 then .bad p false else if(K.at_ p).text=vV then .ok (.mk 1 [] [] []) (p+1)
   else if(K.at_ p).text=zK then(cq K.ws [fun p _=>eV K.ws p] (p+1) d).bind fun xs p=> .ok (.mk 2 (xs.getD 0 []) [] []) p
   else if op=0 then .bad p false else(cq K.ws (iN E0 T0 ne ns) (p+1) d).bind fun xs p=> .ok (.mk op [] (dX xs) (dh xs)) p:=by
  rw[b1,hop,hnE,hnS,b2];unfold gh;rfl
 have hbd:ne≤1∧ns≤2∧bM op:=by
  rw[hop,hnE,hnS]
  have:∀t,(eF t).2.1≤1∧(eF t).2.2≤2∧bM (eF t).1:=fun t=>by
   unfold eF
   repeat' split
   all_goals exact⟨by decide,by decide,by unfold bM;decide⟩
  exact this _
 have hp:(K.at_ p).kind≠ -1→p+1≤K.ws.length:=fun hk=>by
  rcases Nat.lt_or_ge p K.ws.length with h|h
  ·exact h
  ·exact absurd (by unfold Ctx.at_;rw[List.getD_eq_getElem?_getD,List.getElem?_eq_none h];rfl) hk
 have hterms:=fun W=>uo (K.at_ p).text W a3;rw[←hop,←hnE,←hnS] at hterms;refine Zs 85 Tryz.func128 ?_;refine aw ?_;refine Seq.box rfl rfl rfl rfl rfl ?_;intro g1 w1 n1;have e1:=Nat.le_trans bel.size n1.ge;have l1:=Nat.lt_of_lt_of_le k99.lt n1.ge;replace bel:=bel.step n1.below;replace k99:=k99.step n1.below;have k1:=n1.aE;refine Zl bC ?_;intro g2 w2 n2;have e2:=Nat.le_trans bel.size n2.ge;have l2:=Nat.lt_of_lt_of_le k1.lt n2.ge;replace bel:=bel.step n2.below;replace k99:=k99.step n2.below;replace k1:=k1.step n2.below;have k2:=n2.aE;refine bV 0 1 2 (aN ?_);refine ZL Tryz.underlying189 k1 ?_;refine Zc (Ze Tryz.func164) (hw _ (pw.to hle bel k99)) ?_;rintro e w5 ⟨rfl,hb5⟩;refine⟨_,rfl,?_⟩;replace bel:=bel.step hb5;replace k99:=k99.step hb5;replace k1:=k1.step hb5;replace k2:=k2.step hb5;refine Zl bh ?_;intro g3 w3 n3;have e3:=Nat.le_trans bel.size n3.ge;have l3:=Nat.lt_of_lt_of_le k2.lt n3.ge;replace bel:=bel.step n3.below;replace k99:=k99.step n3.below;replace k1:=k1.step n3.below;replace k2:=k2.step n3.below;have k3:=n3.aE;refine Zo 4 k3 ?_;intro w4 pw4;replace bel:=bel.put k3 pw4 e3;replace k99:=k99.put pw4 (by omega);replace k1:=k1.put pw4 (by omega);replace k2:=k2.put pw4 (by omega);replace k3:=pw4.aE;refine bI 0 1 2 3 (bo (aw ?_));refine Zf 0 Tryz.underlying221 ?_;refine ZL Tryz.underlying3 k3 ?_;refine po ?_;refine br 0 1 2 3 13 (Zt ?_);refine Cd.aF rfl (fun c1=> ?_) (fun c1=> ?_)
 ·rw[if_pos c1] at hq
  refine Zr ?_;refine ZL Tryz.underlying189 k1 ?_;refine Seq.bZ (Ze Tryz.func165) rfl (ic K.g _) ?_;rintro e w6 ⟨rfl,hb6⟩;refine⟨_,rfl,fun a ha=>⟨ha.defers,?_⟩⟩;rw[hq];exact⟨bel.step hb6,rfl,d,pw.to hle (bel.step hb6) (k99.step hb6)⟩
 rw[if_neg c1] at hq;have hp1:=hp (by intro h;exact c1 (by rw[h];decide));refine Cd.skip (aN ?_);refine Zl bC ?_;intro g4 w5 n4;have e4:=Nat.le_trans bel.size n4.ge;have l4:=Nat.lt_of_lt_of_le k3.lt n4.ge;replace bel:=bel.step n4.below;replace k99:=k99.step n4.below;replace k1:=k1.step n4.below;replace k2:=k2.step n4.below;replace k3:=k3.step n4.below;have k4:=n4.aE;refine cg 0 1 2 3 4 13 (bo (aw ?_));refine Zf 1 Tryz.underlying221 ?_;refine ZL Tryz.underlying9 k3 ?_;refine bU 0 1 2 3 4 13 17 (Zt (Cd.block (aw ?_)));refine Zv (ah.dM (b:=vV) rfl rfl rfl a3 (by decide)) ?_;refine Za ?_;refine db 0 1 2 3 4 13 17 18 (Zt ?_);refine Cd.aF rfl (fun c2=> ?_) (fun c2=> ?_)
 ·rw[if_pos c2] at hq
  refine aw ?_;refine ZL Tryz.underlying189 k1 ?_;refine Zv (ah.nilCheck rfl rfl) ?_;refine Zf 1 Tryz.underlying219 ?_;refine ZL Tryz.underlying3 k99 ?_;refine eS ?_;refine Zv (ah.nilCheck rfl rfl) ?_;refine Zf 1 Tryz.underlying219 ?_;refine Zq k99 ?_;intro w6 pw6;replace bel:=bel.put k99 pw6 e99;replace k1:=k1.put pw6 (by omega);replace k2:=k2.put pw6 (by omega);replace k3:=k3.put pw6 (by omega);replace k4:=k4.put pw6 (by omega);replace k99:=pw6.aE;refine db 0 1 2 3 4 13 17 18 (aN ?_);refine Zv (ah.build rfl rfl (qq _)) ?_;refine Zo 4 k2 ?_;intro w7 pw7;replace bel:=bel.put k2 pw7 e2;replace k99:=k99.put pw7 (by omega);replace k1:=k1.put pw7 (by omega);replace k3:=k3.put pw7 (by omega);replace k4:=k4.put pw7 (by omega);replace k2:=pw7.aE;refine db 0 1 2 3 4 13 17 18 (Zt (Cd.ret (ai.au (ai.ar ?_))));refine jy 4 k2 Tryz.underlying71 ?_;rw[hq];exact⟨bel,_,rfl,pw.next hle hp1 bel k99,fun _=>False,dW.mk (es:=[]) (ts:=[]) (vs:=[]) (us:=[]) rfl rfl (by simp) (by simp) (by unfold bM;omega) (by simp) (by simp) (fun i e v h=>by simp at h) (fun i e v h=>by simp at h) (fun h=>absurd rfl h) (fun h=>absurd rfl h),fun b hb=>hb.elim⟩
 rw[if_neg c2] at hq;refine aw ?_;refine Zv (ah.dM (b:=zK) rfl rfl rfl a3 (by decide)) ?_;refine Za ?_;refine eP 0 1 2 3 4 13 17 18 28 (Zt ?_);refine Cd.aF rfl (fun c3=> ?_) (fun c3=> ?_)
 ·rw[if_pos c3] at hq
  refine aw ?_;refine ZL Tryz.underlying189 k1 ?_;refine Zv (ah.nilCheck rfl rfl) ?_;refine Zf 1 Tryz.underlying219 ?_;refine ZL Tryz.underlying3 k99 ?_;refine eS ?_;refine Zv (ah.nilCheck rfl rfl) ?_;refine Zf 1 Tryz.underlying219 ?_;refine Zq k99 ?_;intro w6 pw6;replace bel:=bel.put k99 pw6 e99;replace k1:=k1.put pw6 (by omega);replace k2:=k2.put pw6 (by omega);replace k3:=k3.put pw6 (by omega);replace k4:=k4.put pw6 (by omega);replace k99:=pw6.aE;refine eP 0 1 2 3 4 13 17 18 28 (aN ?_);refine Zf 0 Tryz.underlying71 ?_;refine Zq k4 ?_;intro w7 pw7;replace bel:=bel.put k4 pw7 e4;replace k99:=k99.put pw7 (by omega);replace k1:=k1.put pw7 (by omega);replace k2:=k2.put pw7 (by omega);replace k3:=k3.put pw7 (by omega);replace k4:=pw7.aE;refine eP 0 1 2 3 4 13 17 18 28 (aN ?_);refine ZL Tryz.underlying189 k1 ?_;refine Zv (ah.makeFunc (v:= .func (.func 167) #[] #[.pointer (some ⟨g1,0,none⟩), .pointer (some ⟨g4,0,none⟩)]) rfl (show gx _ _=some [] from rfl) (show gx _ _=some [.pointer (some ⟨g1,0,none⟩), .pointer (some ⟨g4,0,none⟩)] from rfl) rfl) ?_;refine Seq.slice (vs:=[_]) (s:=1) rfl rfl rfl Tryz.underlying225 (by kernel_rfl) (dv) (by omega) (by omega) ⟨rfl,trivial⟩ rfl rfl rfl ?_;intro g40 w8 n40;have e40:=Nat.le_trans bel.size n40.ge;have l40:=Nat.lt_of_lt_of_le k4.lt n40.ge;replace bel:=bel.step n40.below;replace k99:=k99.step n40.below;replace k1:=k1.step n40.below;replace k2:=k2.step n40.below;replace k3:=k3.step n40.below;replace k4:=k4.step n40.below;have k40:=n40.aE;have pw8:PW K w8 (p+1) d false:=⟨by rw[Int.natCast_add];exact k99,pw.rd.below (bel.below (by omega) hle),hp1,pw.dm⟩;obtain⟨R,hR⟩:∃R,R=cq K.ws [fun p _=>eV K.ws p] (p+1) d:=⟨_,rfl⟩;rw[←hR] at hq;have hneR:R≠ .out:=Rs.ew (by rw[←hq];exact hne);have hgg4:K.g<g4:=by omega
  have hwi:=iA K hK g4 [fun p _=>eV K.ws p] [(167,[Value.pointer (some ⟨g1,0,none⟩),Value.pointer (some ⟨g4,0,none⟩)])] (some ⟨g40,0,none⟩) 1
   (fun xs W=>Kp w8 W∧aQ W g4 71 #[.int .i64 2, .string (strOf (xs.getD 0 [])), .slice none 0 0, .slice none 0 0]∧∀x∈xs,(∀c∈x,c<256)∧x.length≤4000) (p+1) d w8 pw8 (Nat.le_of_lt k4.lt) rfl (by simp)
   ⟨Kp.refl w8,k4,by simp⟩
   (fun xs W W' p d hM hp hf=>⟨hM.1.fz hp.aE hf,hM.2.1.fz hf (by omega),hM.2.2⟩)
   (fun xs W j f cp hM hj=>by
    match j,hj with
    |0,hj=>
     simp at hj;obtain⟨e1,e2⟩:=hj;subst e1 e2;refine⟨_,rfl,?_⟩;have hb:=(hM.1.aE k40).cell 0;exact hb
    |j+1,hj=>simp at hj)
   (fun j f cp hj=>by
    match j,hj with
    |0,hj=>
     simp at hj;obtain⟨e1,e2⟩:=hj;subst e1;exact wK
    |j+1,hj=>simp at hj)
   (fun j f cp one hj ho xs W p' hxl hpw hW hM hne1=>by
    match j,hj,ho,hxl with
    |0,hj,ho,hxl=>
     simp at hj ho;obtain⟨e1,e2⟩:=hj;subst e1 e2 ho;have hx0:xs=[]:=List.eq_nil_of_length_eq_zero hxl;subst hx0;exact(tW K hK g4 g4 g1 (d+1) p' 2 _ _ _ W hpw hgg4 (Nat.le_refl _) hW hM.2.1 (hM.1.aE k1)).mono fun e W' hq=>hq.Ar fun a p v W' hr h=>⟨hM.1.trans h.1,h.2,fun x hx=>by simp at hx;subst hx;exact vR hK hr⟩
    |j+1,hj,_,_=>simp at hj)
   (by rw[←hR];exact hneR)
  rw[←hR] at hwi;rcases Rs.cB hneR with ⟨q,ov,hr⟩|⟨xs,q,hr⟩
  ·rw[hr] at hwi hq
   refine Seq.bZ (Ze Tryz.func166) rfl hwi ?_;rintro e w9 ⟨hf,rfl,d6,hp6⟩;refine⟨_,rfl,fun a ha=>⟨ha.defers,?_⟩⟩;rw[hq];exact⟨bel.trans (hf.less (by omega)),rfl,d6,hp6⟩
  have hxl:=gA (hR.symm.trans hr)
  obtain⟨x,rfl⟩:∃x,xs=[x]:=by
   match xs,hxl with
   | [x],_=>exact⟨x,rfl⟩
  rw[hr] at hwi hq;replace hq:gh K.ws E0 T0 p d= .ok (.mk 2 x [] []) q:=hq;refine Zc (Ze Tryz.func166) (hwi) ?_;rintro e wq ⟨hf,v6,rfl,pwq,kpq,k4q,hxb⟩;have hxb:=hxb x (by simp);refine⟨_,rfl,?_⟩
  have k2q:aQ wq g2 71 #[.int .i64 0, .string {data:= #[]}, .slice none 0 0, .slice none 0 0]:=by
   have h2:aQ w8 g2 71 #[.int .i64 0, .string {data:= #[]}, .slice none 0 0, .slice none 0 0]:=k2;have h1:=hf.block g2 (by omega) (by omega);unfold aQ at h2⊢;rw[h1];exact h2
  have belq:Fz w.heap.size K.g w wq:=bel.trans (hf.less (by omega));clear bel k1 k2 k3 k4 k40 k99;have bel:=belq;have k2:=k2q;have k4:aQ wq g4 71 #[.int .i64 2, .string (strOf x), .slice none 0 0, .slice none 0 0]:=k4q;have hlt2:=k2.lt;refine eP 0 1 2 3 4 13 17 18 28 (aN ?_);refine ZW 4 Tryz.underlying71 k4 ?_;refine Zo 4 k2 ?_;intro w9 pw9;replace bel:=bel.put k2 pw9 e2;replace k4:=k4.put pw9 (by omega);replace k2:=pw9.aE;refine eP 0 1 2 3 4 13 17 18 28 (Zt (Cd.ret (ai.au (ai.ar ?_))));refine jy 4 k2 Tryz.underlying71 ?_;rw[hq];exact⟨bel,_,rfl,⟨pwq.aE.put pw9 (by omega),pw.rd.below (bel.below (by omega) hle),pwq.cG,pwq.dm⟩,fun _=>False,dW.mk (es:=[]) (ts:=[]) (vs:=[]) (us:=[]) rfl rfl (by simp) (by simp) (by unfold bM;omega) hxb.1 (by have:=hxb.2;omega) (fun i e v h=>by simp at h) (fun i e v h=>by simp at h) (fun h=>absurd rfl h) (fun h=>absurd rfl h),fun b hb=>hb.elim⟩
 rw[if_neg c3] at hq;refine Cd.skip (ai.av (aN ?_));refine Zf 1 Tryz.underlying221 ?_;refine ZL Tryz.underlying9 k3 ?_;refine Zc (Ze Tryz.func169) (hterms _) ?_;rintro e w6 ⟨rfl,hb6⟩;refine⟨_,rfl,?_⟩;replace bel:=bel.step hb6;replace k99:=k99.step hb6;replace k1:=k1.step hb6;replace k2:=k2.step hb6;replace k3:=k3.step hb6;replace k4:=k4.step hb6;refine Zm ?_;refine Zx ?_;refine Zx ?_;refine Zx ?_;refine Za ?_;refine Za ?_;refine Za ?_;refine iU 0 1 2 3 4 5 6 7 13 17 18 28 (bo (aw ?_));refine Zm ?_;refine bF ?_;refine jU 0 1 2 3 4 5 6 7 13 17 18 28 51 (Zt ?_);refine Cd.aF rfl (fun c4=> ?_) (fun c4=> ?_)
 ·rw[if_pos c4] at hq
  refine Zr ?_;refine ZL Tryz.underlying189 k1 ?_;refine Seq.bZ (Ze Tryz.func165) rfl (ic K.g _) ?_;rintro e w7 ⟨rfl,hb7⟩;refine⟨_,rfl,fun a ha=>⟨ha.defers,?_⟩⟩;rw[hq];exact⟨bel.step hb7,rfl,d,pw.to hle (bel.step hb7) (k99.step hb7)⟩
 rw[if_neg c4] at hq;refine Cd.skip (aN ?_);refine ZL Tryz.underlying189 k1 ?_;refine Zv (ah.nilCheck rfl rfl) ?_;refine Zf 1 Tryz.underlying219 ?_;refine ZL Tryz.underlying3 k99 ?_;refine eS ?_;refine Zv (ah.nilCheck rfl rfl) ?_;refine Zf 1 Tryz.underlying219 ?_;refine Zq k99 ?_;intro w6 pw6;replace bel:=bel.put k99 pw6 e99;replace k1:=k1.put pw6 (by omega);replace k2:=k2.put pw6 (by omega);replace k3:=k3.put pw6 (by omega);replace k4:=k4.put pw6 (by omega);replace k99:=pw6.aE;refine jU 0 1 2 3 4 5 6 7 13 17 18 28 51 (aN ?_);refine Zm ?_;refine Zf 0 Tryz.underlying71 ?_;refine Zq k4 ?_;intro w7 pw7;replace bel:=bel.put k4 pw7 e4;replace k99:=k99.put pw7 (by omega);replace k1:=k1.put pw7 (by omega);replace k2:=k2.put pw7 (by omega);replace k3:=k3.put pw7 (by omega);replace k4:=pw7.aE;refine jU 0 1 2 3 4 5 6 7 13 17 18 28 51 (aN ?_);refine Za ?_;refine jV 0 1 2 3 4 5 6 7 8 13 17 18 28 51 (bo (aw ?_));refine Zm ?_;refine Zm ?_;refine nU 0 1 2 3 4 5 6 7 8 13 17 18 28 51 63 64 (Zt (Cd.block ?_));have pwl:PW K w7 (p+1) d false:=⟨by rw[Int.natCast_add];exact k99,pw.rd.below (bel.below (by omega) hle),hp1,pw.dm⟩;have k1o:=k1;have k2o:=k2;have k4o:=k4;have bel0:=bel;have hs0:=bel.size;have hk4l:=k4.lt;replace bel:=Below.refl w7.heap.size w7;have own:=Own.nil w7 w7.heap.size 1 1;have bx:mf K g4 [] w7:=fun x hx=>by simp at hx
 refine Cd.loop (σ:=Nat × Value × List (Nat × Nat × Nat)) (fun s=>[(1, .pointer (some ⟨g1,0,none⟩)),(2, .pointer (some ⟨g2,0,none⟩)),(4, .pointer (some ⟨g4,0,none⟩)),(7, .int .i64 (ns:Int)),(8,s.2.1),(63, .int .i64 (ne:Int)),(64, .int .i64 (s.1:Int))])
  (fun s wr=>s.1≤ne∧Below w7.heap.size w7 wr∧s.2.2.map (·.1)=List.replicate s.1 211∧mf K g4 s.2.2 wr∧Own wr w7.heap.size 1 1 s.2.1 (s.1) (s.2.2.map oX)) (fun s=>ne-s.1) (0, .slice none 0 0,[]) ⟨Nat.zero_le _,bel,rfl,bx,own⟩ ⟨rfl,rfl,rfl,rfl,rfl,rfl,rfl,trivial⟩ ?_
 clear k1 k2 k3 k4 k99;clear bel own bx;rintro⟨i,v,L⟩ wr ⟨hi,bel,hL,bx,own⟩;dsimp only at hi hL bx own⊢;have k1:=k1o.step bel;refine aw ?_;refine jb ?_;refine db 1 2 4 7 8 63 64 65 (bo ?_);refine Cd.aF rfl (fun hc=> ?_) (fun hc=> ?_)
 ·skip
  refine Cd.skip (bo (Cd.block (Zr ?_)));refine Zm ?_;refine ZL Tryz.underlying189 k1 ?_;refine Zc (Ze Tryz.func170) (uK K g4 _) ?_;rintro e w8 ⟨⟨a,b,rfl,hbx⟩,hb8⟩;refine⟨_,rfl,?_⟩;replace bel:=bel.step hb8;replace own:=own.step hb8;replace bx:=bx.step hb8;replace k1:=k1.step hb8;replace bx:=bx.snoc hbx;refine Seq.slice (vs:=[_]) (s:=1) rfl rfl rfl Tryz.underlying225 (by kernel_rfl) (dv) (by omega) (by omega) ⟨rfl,trivial⟩ rfl rfl rfl ?_;intro g69 w8 n69;have e69:=Nat.le_trans bel.size n69.ge;have l69:=Nat.lt_of_lt_of_le k1.lt n69.ge;replace bel:=bel.step n69.below;replace own:=own.step n69.below;replace bx:=bx.step n69.below;replace k1:=k1.step n69.below;have k69:=n69.aE;refine Seq.append rfl rfl rfl Tryz.underlying225 (by kernel_rfl) dv rfl (by decide) (b:=8) (by kernel_rfl) own (Reads.aE k69 1 rfl) (by intro x hx;simp[aU,Value.cells,oX] at hx;rw[hx];rfl) bel.size (by simp only[maxLen];omega) (by omega) rfl rfl rfl ?_;intro v2 wa own2 ha;replace bx:=bx.app own ha;replace bel:=bel.trans ha.below;clear own k1 k69;refine Za ?_;refine db 1 2 4 7 8 63 64 65 (ai.av (jw ?_));refine eS ?_;refine Zm ?_;refine db 1 2 4 7 8 63 64 65 ?_;refine ai.round (i+1,v2,L++[(211,a,b)]) ⟨rfl,rfl,rfl,rfl,rfl,rfl,rfl,trivial⟩ ⟨by dsimp only;omega,bel,?_,bx,?_⟩ (by dsimp only;omega)
  ·dsimp only
   rw[List.map_append,hL,List.replicate_succ'];rfl
  ·dsimp only
   rw[List.map_append];exact own2
 obtain rfl:i=ne:=by omega
 refine Cd.exit (ai.bj (ai.aW (ai.aY (bo (aw ?_)))));refine Zm ?_;refine Zm ?_;refine fO 1 2 4 7 8 63 64 65 72 73 (Zt (Cd.block ?_))
 refine Cd.loop (σ:=Nat × Value × List (Nat × Nat × Nat)) (fun s=>[(1, .pointer (some ⟨g1,0,none⟩)),(2, .pointer (some ⟨g2,0,none⟩)),(4, .pointer (some ⟨g4,0,none⟩)),(7, .int .i64 (ns:Int)),(8,s.2.1),(72, .int .i64 (ns:Int)),(73, .int .i64 (s.1:Int))])
  (fun s wr=>s.1≤ns∧Below w7.heap.size w7 wr∧s.2.2.map (·.1)=List.replicate i 211++List.replicate s.1 212∧mf K g4 s.2.2 wr∧Own wr w7.heap.size 1 1 s.2.1 (i+s.1) (s.2.2.map oX)) (fun s=>ns-s.1) (0,v,L) ⟨Nat.zero_le _,bel,by simpa using hL,bx,own⟩ ⟨rfl,rfl,rfl,rfl,rfl,rfl,rfl,trivial⟩ ?_
 clear k1;clear bel own bx;rintro⟨j,v,L⟩ wr ⟨hj,bel,hL,bx,own⟩;dsimp only at hj hL bx own⊢;have k1:=k1o.step bel;refine aw ?_;refine jb ?_;refine db 1 2 4 7 8 72 73 74 (bo ?_);refine Cd.aF rfl (fun hc=> ?_) (fun hc=> ?_)
 ·skip
  refine Cd.skip (bo (Cd.block (Zr ?_)));refine Zm ?_;refine ZL Tryz.underlying189 k1 ?_;refine Zc (Ze Tryz.func171) (wH K g4 _) ?_;rintro e w8 ⟨⟨a,b,rfl,hbx⟩,hb8⟩;refine⟨_,rfl,?_⟩;replace bel:=bel.step hb8;replace own:=own.step hb8;replace bx:=bx.step hb8;replace k1:=k1.step hb8;replace bx:=bx.snoc hbx;refine Seq.slice (vs:=[_]) (s:=1) rfl rfl rfl Tryz.underlying225 (by kernel_rfl) (dv) (by omega) (by omega) ⟨rfl,trivial⟩ rfl rfl rfl ?_;intro g78 w8 n78;have e78:=Nat.le_trans bel.size n78.ge;have l78:=Nat.lt_of_lt_of_le k1.lt n78.ge;replace bel:=bel.step n78.below;replace own:=own.step n78.below;replace bx:=bx.step n78.below;replace k1:=k1.step n78.below;have k78:=n78.aE;refine Seq.append rfl rfl rfl Tryz.underlying225 (by kernel_rfl) dv rfl (by decide) (b:=8) (by kernel_rfl) own (Reads.aE k78 1 rfl) (by intro x hx;simp[aU,Value.cells,oX] at hx;rw[hx];rfl) bel.size (by simp only[maxLen];omega) (by omega) rfl rfl rfl ?_;intro v2 wa own2 ha;replace bx:=bx.app own ha;replace bel:=bel.trans ha.below;clear own k1 k78;refine Za ?_;refine db 1 2 4 7 8 72 73 74 (ai.av (jw ?_));refine eS ?_;refine Zm ?_;refine db 1 2 4 7 8 72 73 74 ?_;refine ai.round (j+1,v2,L++[(212,a,b)]) ⟨rfl,rfl,rfl,rfl,rfl,rfl,rfl,trivial⟩ ⟨by dsimp only;omega,bel,?_,bx,?_⟩ (by dsimp only;omega)
  ·dsimp only
   rw[List.map_append,hL,List.replicate_succ',List.append_assoc];rfl
  ·dsimp only
   rw[List.map_append];exact own2
 obtain rfl:j=ns:=by omega
 refine Cd.exit (ai.bj (ai.aW (ai.aY (aN ?_))));refine ZL Tryz.underlying189 k1 ?_;refine Zm ?_;have hsr:=bel.size;have pw9:=pwl.step hle bel;have k4:=k4o.step bel;have k2:=k2o.step bel;have hgg4:K.g<g4:=by omega
 obtain⟨AP,cP,rfl,-⟩:=own.reads;obtain⟨R,hR⟩:∃R,R=cq K.ws (iN E0 T0 i j) (p+1) d:=⟨_,rfl⟩;rw[←hR] at hq;have hneR:R≠ .out:=Rs.ew (by rw[←hq];exact hne);obtain⟨h1i,h2j,hop64⟩:=hbd
 have hLl:L.length=i+j:=by
  have:=congrArg List.length hL
  simpa using this
 have hol:(iN E0 T0 i j).length=i+j:=by unfold iN;simp
 have hexl:∀xs:List Part,(dX xs).length≤xs.length∧(dh xs).length≤xs.length:=fun xs=>⟨List.length_filterMap_le _ _,List.length_filterMap_le _ _⟩;have hfl:(L.map fun x=>(x.1,[Value.pointer (some ⟨x.2.1,0,none⟩),Value.pointer (some ⟨x.2.2,0,none⟩)])).length=i+j:=by rw[List.length_map,hLl]
 have hget:∀ {q f:Nat} {cp:List Value},(L.map fun x=>(x.1,[Value.pointer (some ⟨x.2.1,0,none⟩),Value.pointer (some ⟨x.2.2,0,none⟩)]))[q]? =some (f,cp)→∃x,L[q]? =some x∧x∈L∧f=x.1∧cp=[Value.pointer (some ⟨x.2.1,0,none⟩),Value.pointer (some ⟨x.2.2,0,none⟩)]:=fun {q f cp} h=>by
  rw[List.getElem?_map] at h
  cases hx:L[q]? with
  |none=>rw[hx] at h;cases h
  |some x=>
   rw[hx] at h;injection h with h
   injection h with e1 e2
   exact⟨x,rfl,List.mem_of_getElem? hx,e1.symm,e2.symm⟩
 have hfid:∀ {q:Nat} {x:Nat × Nat × Nat},L[q]? =some x→(q<i∧x.1=211)∨(i≤q∧x.1=212):=fun {q x} hx=>by
  have h1:(L.map (·.1))[q]? =some x.1:=by rw[List.getElem?_map,hx];rfl
  rw[hL] at h1;rcases Nat.lt_or_ge q i with hqi|hqi
  ·rw[List.getElem?_append_left (by simpa using hqi),List.getElem?_replicate,if_pos hqi] at h1
   injection h1 with h1
   exact .inl ⟨hqi,h1.symm⟩
  ·rw[List.getElem?_append_right (by simpa using hqi),List.length_replicate] at h1
   have hlt:=(List.getElem?_eq_some_iff.1 h1).1;rw[List.length_replicate] at hlt;rw[List.getElem?_replicate,if_pos hlt] at h1;injection h1 with h1
   exact .inr ⟨hqi,h1.symm⟩
 have hone:∀ {q:Nat} {one:Nat→Nat→Rs Part},(iN E0 T0 i j)[q]? =some one→(q<i→one=fun p d=>(E0 p d).map .inl)∧(i≤q→one=fun p d=>(T0 p d).map .inr):=fun {q one} h=>by
  unfold iN at h;refine⟨fun hqi=> ?_,fun hqi=> ?_⟩
  ·rw[List.getElem?_append_left (by simpa using hqi),List.getElem?_replicate,if_pos hqi] at h
   injection h with h
   exact h.symm
  ·rw[List.getElem?_append_right (by simpa using hqi),List.length_replicate] at h
   have hlt:=(List.getElem?_eq_some_iff.1 h).1;rw[List.length_replicate] at hlt;rw[List.getElem?_replicate,if_pos hlt] at h;injection h with h
   exact h.symm
 have hwi:=iA K hK g4 (iN E0 T0 i j) (L.map fun x=>(x.1,[Value.pointer (some ⟨x.2.1,0,none⟩),Value.pointer (some ⟨x.2.2,0,none⟩)])) AP cP
  (fun xs W=>Kp wr W∧∃evs tvs vE vT S,aQ W g4 71 #[.int .i64 op, .string (strOf []),vE,vT]∧dA W g4 g4 (dX xs) (dh xs) evs tvs vE vT S) (p+1) d wr pw9 (Nat.le_of_lt k4.lt) (by rw[hfl,hol]) (by rw[hol];omega)
  ⟨Kp.refl wr,[],[],_,_,_,k4,dA.nil wr g4 g4⟩
  (fun xs W W' p d hM hp hf=>by
   obtain⟨kp,evs,tvs,vE,vT,S,kt,aq⟩:=hM;exact⟨kp.fz hp.aE hf,evs,tvs,vE,vT,S,kt.fz hf (by omega),aq.fz hf hgg4⟩)
  (fun xs W q f cp hM hj=>by
   obtain⟨kp,-⟩:=hM;obtain⟨x,hx,hxm,rfl,rfl⟩:=hget hj;obtain⟨A',c',hv,hr⟩:=(kp.own own).reads;injection hv with hv _ _
   subst hv;have hql:=(List.getElem?_eq_some_iff.1 hx).1;obtain⟨ad,hA,-,hc⟩:=hr.2 (by omega);exact⟨ad,hA,hc q _ (by rw[List.getElem?_map,hx];rfl)⟩)
  (fun q f cp hj=>by
   obtain⟨x,hx,hxm,rfl,rfl⟩:=hget hj;rcases hfid hx with ⟨-,e⟩|⟨-,e⟩
   ·rw[e];exact yH
   ·rw[e];exact zH)
  (fun q f cp one hj ho xs W p' hxl hpw hW hM hne1=>by
   obtain⟨x,hx,hxm,rfl,rfl⟩:=hget hj;have hql:=(List.getElem?_eq_some_iff.1 hx).1;obtain⟨o1,o2⟩:=hone ho;obtain⟨kp,evs,tvs,vE,vT,S,kt,aq⟩:=hM;obtain⟨bx1,bx2⟩:=bx x hxm;obtain⟨l1,l2⟩:=hexl xs;rcases hfid hx with ⟨hqi,e⟩|⟨hqi,e⟩
   ·have ho1:=o1 hqi
    subst ho1;have hne2:E0 p' (d+1)≠ .out:=Rs.ew hne1;rw[e]
    exact(uU K hK g4 g4 x.2.1 x.2.2 (d+1) p' op [] (dX xs) (dh xs) evs tvs vE vT S E0 W hpw hgg4 (Nat.le_refl _) hW kt (kp.aE bx1) (kp.aE bx2) aq (by omega) (fun W' h1 _=>hE p' (d+1) W' h1 hne2) hne2).mono fun e W' hq=>hq.map fun a v W' h=>⟨kp.trans h.1,by
     have e1:dX (xs++[.inl a])=dX xs++[a]:=by unfold dX;rw[List.filterMap_append];rfl
     have e2:dh (xs++[.inl a])=dh xs:=by unfold dh;rw[List.filterMap_append];simp
     rw[e1,e2];exact h.2⟩
   ·have ho2:=o2 hqi
    subst ho2;have hne2:T0 p' (d+1)≠ .out:=Rs.ew hne1;rw[e]
    exact(vD K hK g4 g4 x.2.1 x.2.2 (d+1) p' op [] (dX xs) (dh xs) evs tvs vE vT S T0 W hpw hgg4 (Nat.le_refl _) hW kt (kp.aE bx1) (kp.aE bx2) aq (by omega) (fun W' h1 _=>hT p' (d+1) W' h1 hne2) hne2).mono fun e W' hq=>hq.map fun a v W' h=>⟨kp.trans h.1,by
     have e1:dX (xs++[.inr a])=dX xs:=by unfold dX;rw[List.filterMap_append];simp
     have e2:dh (xs++[.inr a])=dh xs++[a]:=by unfold dh;rw[List.filterMap_append];rfl
     rw[e1,e2];exact h.2⟩)
  (by rw[←hR];exact hneR)
 rw[←hR,hfl] at hwi;rcases Rs.cB hneR with ⟨q,ov,hr⟩|⟨xs,q,hr⟩
 ·rw[hr] at hwi hq
  refine Seq.bZ (Ze Tryz.func166) rfl hwi ?_;rintro e w9 ⟨hf,rfl,d6,hp6⟩;refine⟨_,rfl,fun a ha=>⟨ha.defers,?_⟩⟩;rw[hq];exact⟨(bel0.step bel).trans (hf.less (by omega)),rfl,d6,hp6⟩
 have hxl:=gA (hR.symm.trans hr);rw[hol] at hxl;obtain⟨l1,l2⟩:=hexl xs;rw[hr] at hwi hq;replace hq:gh K.ws E0 T0 p d= .ok (.mk op [] (dX xs) (dh xs)) q:=hq;refine Zc (Ze Tryz.func166) (hwi) ?_;rintro e wq ⟨hf,v6,rfl,pwq,kpq,evs,tvs,vE,vT,S,k4q,aqq⟩;refine⟨_,rfl,?_⟩
 have k2q:aQ wq g2 71 #[.int .i64 0, .string {data:= #[]}, .slice none 0 0, .slice none 0 0]:=by
  have h2:aQ wr g2 71 #[.int .i64 0, .string {data:= #[]}, .slice none 0 0, .slice none 0 0]:=k2;have h1:=hf.block g2 (by omega) (by omega);unfold aQ at h2⊢;rw[h1];exact h2
 have belq:Fz w.heap.size K.g w wq:=(bel0.step bel).trans (hf.less (by omega));have hrep:=aqq.tm op [] hop64 (by simp) (by simp) (by omega) (by omega);have hbn:=aqq.bounds;obtain⟨AE,cE,hvE,-⟩:=aqq.fE.reads;obtain⟨AT,cT,hvT,-⟩:=aqq.iW.reads;subst hvE hvT;clear bel k1 k2 k4;have bel:=belq;have k2:=k2q;have k4:=k4q;have hlt2:=k2.lt;refine db 1 2 4 7 8 72 73 74 (aN ?_);refine ZW 4 Tryz.underlying71 k4 ?_;refine Zo 4 k2 ?_;intro w8 pw8;replace bel:=bel.put k2 pw8 e2;replace k4:=k4.put pw8 (by omega);replace k2:=pw8.aE;refine db 1 2 4 7 8 72 73 74 (Zt (Cd.ret ?_));refine jy 4 k2 Tryz.underlying71 ?_;rw[hq];have hsz:=pw8.size;refine⟨bel,_,rfl,⟨pwq.aE.put pw8 (by omega),pw.rd.below (bel.below (by omega) hle),pwq.cG,pwq.dm⟩,_,hrep.mono (fun _ h=>h) (fun a ha=>World.cell?_of_block (pw8.grown.block _ (hbn _ ha).2.1 (fun e=>by injection e with e;have:=(hbn _ ha).1;omega))),fun b hb=> ?_⟩;obtain⟨h1,h2,-⟩:=hbn b hb;exact⟨by omega,by omega⟩
theorem ru (K:Ctx)(hK:K.Ok):∀n,Ac K (lR K.ws n)
 |0=>fun p d W _ h=>absurd rfl h
 |n+1=>fun p d W hp hne=>wU K hK ((bK K.ws (n+1)).E 0) (lR K.ws n) (fun p d W hp hne=>(yl K hK (n+1) (n+1) (Nat.le_refl _)).2 0 (by omega) p d W hp hne) (ru K hK n) p d W hp hne
theorem sY (g:Nat)(w:World):CallsD Tryz.prog 207 #[.pointer (some ⟨g,0,none⟩)] .returning w fun e u' w'=>e= .returned (.tuple #[])∧u'= .returning∧w'=w:=by
 refine callsD_of_wpS Tryz.func207 rfl fun c₀ cs hu=> ?_;apply wpS_seq;apply wpS_region;simp[wpOpsS,go_sem,recoverD,hu,Tryz.ntmps207,Exit.thenS];apply wpS_seq;apply wpS_region;simp[wpOpsS,go_sem,recoverD,hu,Exit.thenS,Tryz.underlying20];refine wpS_cond (t:=false) (by simp[Act.eval,Array.replicate]) ?_;simp only[Bool.false_eq_true,if_false];refine wpS_of_wp (wp_skip ?_)
 cases c₀
 simp_all [bodyPostS,results,Tryz.results207]
theorem mg:cv Tryz.prog 261=some (some (.agg #[])):=by kernel_rfl
theorem ah.typeAssert {P:Program}{E:Operand→Option Value}{o:Oper}{w:World}{x:Operand}{T T':TypeId}{b:Bool}{v u:Value}(ho:o.op= .typeAssert x T T' b)(hx:E x=some v)(hr:(Instr.typeAssert v T T' b).run P w= .ok u w):ah P E o w u w:=fun ρ h=>by
 unfold execOp;simp only[ho];rw[h _ _ hx];simp only[Sem.run_bind,hr,Result.andThen_ok];rfl
theorem Cd.at_ {P:Program}{c:Code}{Q:Exit→Act→World→Prop}{n:Nat}{F:List (Nat × Value)}{w:World}{a:Act}(h:Cd P c Q n F w)(ha:Fr n F a):c.wp P Q a w:=h a ha
theorem sT (g:Nat)(b:Bool)(w:World)(hb:aQ w g 4 #[.bool b]):CallsD Tryz.prog 207 #[.pointer (some ⟨g,0,none⟩)] (.panicking lz) w fun e u' w'=>
  e= .returned (.tuple #[])∧u'= .panicking [{v:= .iface 261 (.agg #[]),recovered:=true}]∧aQ w' g 4 #[.bool false]∧w.grownBy w' (some g):=by
 refine callsD_of_wpS Tryz.func207 rfl fun c₀ cs hu=> ?_;unfold lz at hu;apply wpS_seq;apply wpS_region;simp[wpOpsS,go_sem,recoverD,hu,Tryz.ntmps207,Exit.thenS];apply wpS_seq;apply wpS_region;simp[wpOpsS,go_sem,recoverD,hu,Exit.thenS,Tryz.underlying20];refine wpS_cond (t:=true) (by simp[Act.eval,Array.replicate]) ?_;simp only[if_true];refine wpS_of_wp ?_;refine Cd.at_ (n:=15) (F:=[(0, .pointer (some ⟨g,0,none⟩)),(1, .iface 261 (.agg #[]))]) ?_ ⟨by simp,rfl,fun t v ht=> ?_⟩
 ·refine Cd.seq ?_
  refine aw ?_;refine Zm ?_;refine Zv (ah.typeAssert (u:= .tuple #[.agg #[], .bool true]) rfl rfl (by kernel_rfl)) ?_;refine Zm ?_;refine Zx ?_;refine Zx ?_;refine Zl mg ?_;intro g2 w1 n2;have hb1:=hb.step n2.below;refine Seq.il (m:=0) rfl rfl rfl rfl (by kernel_rfl) rfl trivial n2.aE (by simp[Value.cells]) rfl rfl ?_;intro w2 p2;have hne:g≠g2:=by have:=hb.lt;have:=n2.ge;omega
  have hb2:=hb1.put p2 hne;refine Za ?_;refine Seq.nil (aN ?_);refine Zm ?_;refine mn ?_;refine Seq.nil (Zt ?_);refine Cd.aR rfl rfl ?_;refine Cd.skip (jw ?_);refine Zq hb2 ?_;intro w3 p3;refine Seq.nil ?_;intro a ha
  have hgr:w.grownBy w3 (some g):=by
   have h1:w.grownBy w1 (some g):=⟨n2.below.os,n2.below.tape,n2.below.output,n2.below.size,fun k hk _=>n2.below.block k hk⟩;have h2:w1.heap.size=w2.heap.size:=p2.size.symm;refine⟨p3.grown.os.trans (p2.grown.os.trans h1.os),p3.grown.tape.trans (p2.grown.tape.trans h1.tape),p3.grown.output.trans (p2.grown.output.trans h1.output),by have:=h1.size;have:=p2.size;have:=p3.size;omega,fun k hk hne2=> ?_⟩;have hge:=n2.ge;have hs1:=h1.size;rw[p3.grown.block k (by omega) hne2,p2.grown.block k (by omega) (fun e=>by injection e with e;omega)];exact h1.block k hk hne2
  refine⟨ha.defers,_,?_, .tuple #[],?_,rfl,rfl,p3.aE,hgr⟩
  ·cases c₀
   simp_all
  ·exact results_none rfl _ _ _
 rcases bN ht with ⟨rfl,rfl⟩|⟨-,ht⟩
 ·simp
 rcases bN ht with ⟨rfl,rfl⟩|⟨-,ht⟩
 ·simp
 cases ht
def kc (g:FuncId)(cap:List Value):Deferred:= {target:= .fn (.func g) cap.toArray,args:= #[]}
theorem Seq.zs {P:Program}{ops:Array Oper}{Q:Exit→Act→World→Prop}{rest:List Oper}{o:Oper}{n t:Nat}{F:List (Nat × Value)}{w:World}{g:FuncId}{cap:List Value}{ts:Array TypeId}(ho:o.op= .defer {callee:= .value (.tmp t),args:= #[],argTypes:=ts}) (hx:dI F (.tmp t)=some (.func (.func g) #[] cap.toArray)) (hg:o.guard=none) (hd:o.dst=none)
  (h:∀I:Inhabited (List Deferred),I.default=[kc g cap]→ @Seq I P ops Q rest n F w):Seq P ops Q (o::rest) n F w:=by
 intro a ha;refine wpList_plain hg fun K hK=> ?_
 have hr:(execOp a.eval o).run P w= .ok (.defer (kc g cap)) w:=by
  unfold execOp;have hf:a.eval (.tmp t)= .func (.func g) #[] cap.toArray:=ha.ev _ _ hx;simp only[ho,resolve,hf,Deferred.ofValue,Sem.run_bind,Sem.run_pure,Result.andThen_ok];simp[kc]
 unfold Oper.wp;rw[hr,Oper.upon_defer,hd];have hD:kc g cap::a.defers=[kc g cap]:=by rw[ha.defers];rfl
 exact hK _ _ (h ⟨[kc g cap]⟩ rfl _ (@Fr.mk ⟨[kc g cap]⟩ n F _ ha.size hD ha.slot))
theorem kG {P:Program}{fn:Func}{p g:Nat}{ty t:TypeId}{b:Bool}{w:World}(h:fn.results= #[.cell p ty]) (tmps:Array Value) (hp:tmps[p]? =some (.pointer (some ⟨g,0,none⟩))) (hu:P.underlying ty=some .bool) (hb:aQ w g t #[.bool b]):(results fn tmps).run P w= .ok (.bool b) w:=by
 have hagg:(isAgg ty).run P w= .ok false w:=by
  unfold isAgg;rw[Sem.run_bind,run_underlying hu w];rfl
 have hc:w.cell? ⟨g,0,none⟩=some (.bool b):=by rw[hb.cell 0];rfl
 simp[results,h,hp,asAddr,loadVar,Sem.run_bind,hagg,go_sem,hc]
def A8 {α:Type}(K:Ctx)(h:Nat)(w:World)(r:Rs α)(okv:α→World→Prop)(e:Ending)(w':World):Prop:=
 Fz h K.g w w'∧Kp w w'∧match r with
 | .out=>False
 | .bad p ov=>e= .returned (.bool false)∧∃d,PW K w' p d ov
 | .ok a p=>e= .returned (.bool (decide (p=K.ws.length)))∧(∃d,PW K w' p d false)∧okv a w'
def Al {α:Type}(K:Ctx)(h:Nat)(W:World)(r:Rs α)(okv:α→World→Prop)(e:Ending)(W':World):Prop:=match r with
 | .out=>False
 | .bad p ov=>Fz W.heap.size K.g W W'∧e= .panicked lz∧∃d,PW K W' p d ov
 | .ok a p=>Fz h K.g W W'∧Kp W W'∧(∃v,e= .returned v)∧PW K W' p 0 false∧okv a W'
theorem wJ {α:Type}(K:Ctx)(hK:K.Ok)(f:Nat)(cp:List Value)(h:Nat)(r:Rs α)(okv:World→α→World→Prop)(ok2:α→World→Prop)(w:World)(pw:PW K w 0 0 false)(hh:h≤w.heap.size)(hne:r≠ .out)(eg:∀args w,(callFunc f args).run Tryz.prog w= .ok (.enter f args) w)
  (hok:∀a W0 W W' g,okv W0 a W→w.heap.size≤g→g<W0.heap.size→W0.heap.size≤W.heap.size→W.heap.size≤W'.heap.size→(∀k,k<W.heap.size→k≠g→W'.heap[k]? =W.heap[k]?)→ok2 a W')
  (hc:∀W,Below w.heap.size w W→PW K W 0 0 false→Calls Tryz.prog f cp.toArray W (Al K h W r (okv W))):
  Calls Tryz.prog 162 #[.pointer (some ⟨K.g,0,none⟩), .func (.func f) #[] cp.toArray] w (A8 K h w r ok2):=by
 have bel:=Below.refl w.heap.size w;have hle:=hK.le;have hlt:=pw.aE.lt;have hen:∀args w,(callFunc 207 args).run Tryz.prog w= .ok (.enter 207 args) w:=fun args w=>bc Tryz.func207 (by kernel_rfl) rfl args w;refine Calls.vB 18 Tryz.func162 rfl rfl rfl ?_;refine aw ?_;refine Zl ld ?_;intro g4 w1 n4;have e4:=Nat.le_trans bel.size n4.ge;replace bel:=bel.step n4.below;have k4:=n4.aE;refine bV 0 1 4 (aN ?_);refine Zv (ah.makeFunc (v:= .func (.func 207) #[] #[.pointer (some ⟨g4,0,none⟩)]) rfl (show gx _ _=some [] from rfl) (show gx _ _=some [.pointer (some ⟨g4,0,none⟩)] from rfl) rfl) ?_;refine Seq.zs (cap:=[.pointer (some ⟨g4,0,none⟩)]) rfl rfl rfl rfl ?_;intro I hI;have hcl:=hc _ bel (pw.step hle bel);have hltc:=k4.lt;have kp:Kp w w1:=(Kp.refl w).step bel;have hs1:=bel.size;refine bV 0 1 4 (aN ?_);refine Zm ?_;rcases Rs.cB hne with ⟨q,ov,hr⟩|⟨x,q,hr⟩
 ·rw[hr] at hcl⊢
  refine Seq.bZ (Enters.value (first:=[]) (cap:=cp) rfl rfl rfl eg) rfl hcl ?_;rintro e w6 ⟨hf,rfl,d6,hp6⟩;refine⟨_,rfl,fun a ha=> ?_⟩;have k46:=k4.fz hf (by omega);show Leaves Tryz.prog _ a.tmps _ a.defers (.panicking lz) w6;rw[ha.defers,hI];refine leaves_cons (by simp) (f:=207) (args:= #[.pointer (some ⟨g4,0,none⟩)]) (by simp[invoke,hen]) ((sT g4 false w6 k46).mono fun e u' w' ⟨h1,h2,h3,h4⟩=> ?_);subst h1 h2;have hfw:Fz h K.g w w6:=(Fz.of (bel.mono hh)).trans (hf.less (by omega))
  have hg4:Fz h K.g w6 w':=⟨h4.os,h4.tape,h4.output,h4.size,fun k hk _=>by
   have:=hf.size;exact h4.block k (by omega) (fun e=>by injection e with e;omega)⟩
  have kp6:Kp w w6:=kp.fz (pw.step hle bel).aE hf;refine⟨_,kG rfl a.tmps (ha.slot 4 _ rfl) Tryz.underlying4 h3,hfw.trans hg4,⟨Nat.le_trans kp6.size h4.size,fun k t cs hb h1 h2 h3'=>(kp6.dD k t cs hb h1 h2 h3').grown h4 (fun e=>by injection e with e;have:=hb.lt;omega)⟩,rfl,d6,hp6.aE.grown h4 (fun e=>by injection e with e;omega),hp6.rd.below ⟨h4.os,h4.tape,h4.output,h4.size,fun k hk=>h4.block k (by have:=hp6.aE.lt;omega) (fun e=>by injection e with e;omega)⟩,hp6.cG,hp6.dm⟩
 rw[hr] at hcl⊢;refine Seq.call (Enters.value (first:=[]) (cap:=cp) rfl rfl rfl eg) rfl rfl rfl hcl ?_;rintro e wq ⟨hf,kpq,⟨v,rfl⟩,pwq,hov⟩;refine⟨_,rfl,?_⟩;have hbel1:=bel;clear bel;have hfw:Fz h K.g w wq:=(Fz.of (hbel1.mono hh)).trans hf;have kp6:=kp.trans kpq;have k46:=kpq.aE k4;have hg4:g4≠K.g:=by omega
 clear k4;have k4:=k46;have k99:=pwq.aE;have bel:=Below.refl wq.heap.size wq;have loc:=Fz.refl wq.heap.size g4 wq;have e4':g4=g4:=rfl;refine bV 0 1 4 (bo ?_);refine iC 10 ?_;intro w2 hw2 zw2;replace bel:=bel.step hw2;replace k99:=k99.step hw2;replace k4:=k4.step hw2;have zbel:=bel.size;have zlt:=k4.lt;refine gF ?_;refine Zd (fun w hG=>ah.nilCheck rfl rfl) ?_;refine iZ 1 Tryz.underlying219 ?_;refine gg Tryz.underlying3 k99 ?_;refine gF ?_;refine Zd (fun w hG=>ah.nilCheck rfl rfl) ?_;refine iZ 0 Tryz.underlying219 ?_;refine gg Tryz.underlying215 k99 ?_;refine Zd (fun w hG=>ah.len rfl rfl Tryz.underlying215) ?_;refine Zd (fun w hG=>ah.gU rfl rfl rfl) ?_;refine Dr.nil ?_;refine cD.done (F':=[(0,_),(1,_),(4,_),(17,_)]) rfl ⟨rfl,rfl,rfl,rfl,trivial⟩ ?_;intro w3 hw3 fw3;replace bel:=bel.step hw3;replace k99:=k99.step hw3;replace k4:=k4.step hw3;have hbw:=bel;have hsw:=bel.size;have hlt4:=k4.lt;have k4q:=k46;refine Zq k4 ?_;intro w4 pw4;replace k99:=k99.put pw4 (by omega);replace k4:=pw4.aE;refine bV 0 1 4 (Zt (Cd.ret ?_));intro a ha;show Leaves Tryz.prog _ a.tmps _ a.defers .returning _;rw[ha.defers,hI];refine leaves_cons (by simp) (f:=207) (args:= #[.pointer (some ⟨g4,0,none⟩)]) (by simp[invoke,hen]) ((sY g4 _).mono fun e u' w' ⟨h1,h2,h3⟩=> ?_);subst h1 h2 h3;have hgr:=pw4.grown;have hsz:=pw4.size;have hblk:∀k,k<wq.heap.size→k≠g4→w'.heap[k]? =wq.heap[k]? :=fun k hk hne=>(hgr.block k (by omega) (fun e=>hne (by injection e))).trans (hbw.block k hk);have hfe:Fz h K.g wq w':=⟨hgr.os.trans hbw.os,hgr.tape.trans hbw.tape,hgr.output.trans hbw.output,by omega,fun k hk _=>hblk k (by have:=hfw.size;omega) (by omega)⟩;have hdd:(decide ((q:Int)=(K.ws.length:Int)))=decide (q=K.ws.length):=by rw[decide_eq_decide];omega
 refine⟨_,kG rfl a.tmps (ha.slot 4 _ rfl) Tryz.underlying4 k4,hfw.trans hfe,⟨Nat.le_trans kp6.size (by omega),fun k t cs hb h1 h2 h3'=> ?_⟩,?_,⟨0,k99,pwq.rd.below (B:=K.B) ⟨hfe.os,hfe.tape,hfe.output,hfe.size,fun k hk=>hblk k (by omega) (by omega)⟩,pwq.cG,pwq.dm⟩,hok x _ wq _ g4 hov (by omega) hltc kpq.size (by omega) hblk⟩
 ·have hb2:=kp6.dD k t cs hb h1 h2 h3'
  have:=hb.lt;have h9:=hblk k hb2.lt (by omega);unfold aQ at hb2⊢;rw[h9];exact hb2
 ·show Ending.returned (.bool (decide ((q:Int)=(K.ws.length:Int))))=_
  rw[hdd]
section
variable {P:Program} {E:Operand→Option Value} {o:Oper} {w:World} {x:Operand} {T:TypeId}
end
end Go.Proofs.YtigoimhndlnhfaaGreat