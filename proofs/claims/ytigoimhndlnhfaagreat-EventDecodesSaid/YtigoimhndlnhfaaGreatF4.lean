/-
  Texts that were joined: KS, PanE, PanF, PanG, PanH, PanI, PanJ, PanK, PanL, PanM, LexI, LexJ, PanN. Conditions: what each theorem names.
-/
import Derived.Test.YtigoimhndlnhfaaGreatF3
import Derived.Recover
set_option linter.unusedSectionVars false
namespace Go.Proofs.YtigoimhndlnhfaaGreat
open Go.RowKit
variable [Inhabited (List Deferred)]
theorem fK (A B:List (Nat × Value))(t:Nat):look (A++B) t=match look A t with|some v=>some v|none=>look B t:=by
 induction A with
 |nil=>rfl
 |cons x r ih=>
  obtain⟨k,v⟩:=x;show(bif Nat.beq k t then some v else look (r++B) t)=match (bif Nat.beq k t then some v else look r t) with|some v=>some v|none=>look B t
  cases Nat.beq k t with
  |true=>rfl
  |false=>exact ih
def dL (S:Nat→Bool):Nat→List Oper→List Value→List (Nat × Value)
 |k,o::r,v::vs=>match o.dst with
  |some d=>bif S k then(d,v)::dL S (k+1) r vs else dL S (k+1) r vs
  |none=>dL S (k+1) r vs
 |_,_,_=>[]
theorem fv {S:Nat→Bool}:∀ {l:List Oper} {vs:List Value} {k t:Nat} {v:Value},look (dL S k l vs) t=some v→∃(j:Nat) (o:Oper),l[j]? =some o∧o.dst=some t∧vs[j]? =some v∧S (k+j)=true
 | [],_,_,_,_,h=>by simp[dL,look] at h
 |_::_,[],_,_,_,h=>by simp[dL,look] at h
 |o::r,v::vs,k,t,u,h=>by
  unfold dL at h
  have up:look (dL S (k+1) r vs) t=some u→∃(j:Nat) (o':Oper),(o::r)[j]? =some o'∧o'.dst=some t∧(v::vs)[j]? =some u∧S (k+j)=true:=fun h=>by
   obtain⟨j,o',h1,h2,h3,h4⟩:=fv h;exact⟨j+1,o',by simpa using h1,h2,by simpa using h3,by rw[show k+(j+1)=k+1+j from by omega];exact h4⟩
  cases hd:o.dst with
  |none=>rw[hd] at h;exact up h
  |some d=>
   rw[hd] at h;simp only at h
   cases hS:S k with
   |false=>rw[hS] at h;exact up h
   |true=>
    rw[hS,cond_true] at h;rcases bZ h with ⟨rfl,rfl⟩|⟨_,h⟩
    ·exact⟨0,o,rfl,hd,rfl,hS⟩
    ·exact up h
theorem mZ {S:Nat→Bool}:∀ {l:List Oper} {vs:List Value} {k j:Nat} {o:Oper} {d:Nat} {v:Value},l[j]? =some o→o.dst=some d→vs[j]? =some v→S (k+j)=true→(∀i o',l[i]? =some o'→i≠j→o'.dst≠some d)→look (dL S k l vs) d=some v
 | [],_,_,_,_,_,_,h,_,_,_,_=>by simp at h
 |_::_,[],_,_,_,_,_,_,_,h,_,_=>by simp at h
 |o0::r,v0::vs,k,0,o,d,v,h1,h2,h3,h4,h5=>by
  simp at h1 h3;subst h1 h3;unfold dL;rw[h2];simp only;rw[Nat.add_zero] at h4;rw[h4,cond_true];unfold look;rw[Nat.beq_refl];rfl
 |o0::r,v0::vs,k,j+1,o,d,v,h1,h2,h3,h4,h5=>by
  have ih:=mZ (S:=S) (l:=r) (vs:=vs) (k:=k+1) (j:=j) (o:=o) (d:=d) (v:=v) (by simpa using h1) h2 (by simpa using h3) (by rw[show k+1+j=k+(j+1) from by omega];exact h4) (fun i o' hi hne=>h5 (i+1) o' (by simpa using hi) (by omega));unfold dL
  cases hd:o0.dst with
  |none=>exact ih
  |some d0=>
   simp only
   cases S k with
   |false=>exact ih
   |true=>
    have hne:d0≠d:=fun e=>h5 0 o0 rfl (by omega) (by rw[hd,e]);rw[cond_true];unfold look
    have:Nat.beq d0 d=false:=by
     cases hb:Nat.beq d0 d with
     |false=>rfl
     |true=>exact absurd (Nat.eq_of_beq_eq_true hb) hne
    rw[this,cond_false];exact ih
section
variable {P:Program} {Q:Exit→Act→World→Prop} {n:Nat} {F0:List (Nat × Value)}
def lp (l:List Oper)(F0:List (Nat × Value))(vs:List Value)(S:Nat→Bool)(o:Oper):List (Nat × Value):=dL (fun k=>bc (direct o) k) 0 l vs++(F0++dL S 0 l vs)
def tP {σT:Type}(l:List Oper)(n:Nat)(F0:List (Nat × Value))(vs:σT→List Value)(X:σT→(Nat→Bool)→World→Prop)(S:Nat→Bool)(k:Nat)(a:Act)(w:World):Prop:=
 ∃σ,Fr n F0 a∧(∀(j:Nat) (o:Oper) (d:Nat) (v:Value),l[j]? =some o→o.dst=some d→fR S k j=true→(vs σ)[j]? =some v→a.tmps[d]? =some v)∧X σ (fR S k) w
def Cs (l:List Oper)(S:Nat→Bool):Prop:=∀(i:Nat) (o:Oper),l[i]? =some o→S i=true→∀x∈direct o,S x=true
def FT {σT:Type}(P:Program)(ops:Array Oper)(Q:Exit→Act→World→Prop)(l:List Oper)(n:Nat)(F0:List (Nat × Value))(vs:σT→List Value)(X:σT→(Nat→Bool)→World→Prop)(k:Nat)(o:Oper):Prop:=
 ∀(σ:σT) (S:Nat→Bool) (w:World),S k=false→(∀x∈direct o,S x=true)→Cs l S→X σ S w→Seq P ops (Exit.then (tP l n F0 vs X S k) Q) [o] n (lp l F0 (vs σ) S o) w
theorem zF {o:Oper}{a:Act}{w:World}{K K':Act→World→Prop}(h:o.wp P a w K (Exit.then K' Q)):o.wp P a w K Q:=by
 unfold Oper.wp at *;unfold Oper.upon at *;split at h<;>exact h
theorem iN {l:List Oper}{keys:List Nat}(hchk:iz n keys 0 [] l=true){j:Nat}{o:Oper}{d:Nat}(h:l[j]? =some o)(hd:o.dst=some d):d<n∧d∉keys∧∀i o',l[i]? =some o'→i≠j→o'.dst≠some d:=by
 obtain⟨-,h2⟩:=fC hchk j o h;obtain⟨a1,-,a3,a4⟩:=h2 d hd;exact⟨a1,a3,a4⟩
theorem ae.aD {σT:Type}{l:List Oper}{vs:σT→List Value}{X:σT→(Nat→Bool)→World→Prop}{σ σ':σT}{S:Nat→Bool}{k d:Nat}{o:Oper}{u:Value}{w':World}(hchk:iz n (jB F0) 0 [] l=true)(ho:l[k]? =some o)(hd:o.dst=some d)(hpre:∀x∈direct o,S x=true)(hu:(vs σ')[k]? =some u)(hj:∀j,S j=true→(vs σ')[j]? =(vs σ)[j]?)(hX:X σ' (fR S k) w'):
  ae (Exit.then (tP l n F0 vs X S k) Q) .normal n ((d,u)::lp l F0 (vs σ) S o) w':=by
 intro a ha;obtain⟨b1,b2,b3⟩:=iN hchk ho hd
 have hF:∀t v,look F0 t=some v→a.tmps[t]? =some v:=fun t v ht=>by
  have hk:=iK ht
  have hnone:∀S',look (dL S' 0 l (vs σ)) t=none:=fun S'=>by
   cases hl:look (dL S' 0 l (vs σ)) t with
   |none=>rfl
   |some x=>
    obtain⟨j,o',h1,h2,-,-⟩:=fv hl;exact absurd hk (iN hchk h1 h2).2.1
  refine ha.slot t v ?_;unfold look
  cases hb:Nat.beq d t with
  |true=>rw[Nat.eq_of_beq_eq_true hb] at b2;exact absurd hk b2
  |false=>
   rw[cond_false];unfold lp;rw[fK,hnone];simp only;rw[fK,ht]
 refine⟨σ',⟨ha.size,ha.defers,hF⟩,fun j o' d' v h1 h2 h3 h4=> ?_,hX⟩
 by_cases hjk:j=k
 ·subst hjk
  rw[ho] at h1;injection h1 with h1
  subst h1;rw[hd] at h2;injection h2 with h2
  subst h2;rw[hu] at h4;injection h4 with h4
  subst h4;exact ha.slot d u (by unfold look;rw[Nat.beq_refl];rfl)
 ·have hS:S j=true:=by unfold fR at h3;rwa [if_neg hjk] at h3
  have hv:(vs σ)[j]? =some v:=by rw[←hj j hS];exact h4
  obtain⟨c1,c2,c3⟩:=iN hchk h1 h2;refine ha.slot d' v ?_;have hne:d≠d':=fun e=>b3 j o' h1 hjk (by rw[h2,e]);unfold look
  have hb:Nat.beq d d'=false:=by
   cases hb:Nat.beq d d' with
   |false=>rfl
   |true=>exact absurd (Nat.eq_of_beq_eq_true hb) hne
  rw[hb,cond_false];unfold lp;rw[fK];have h0:look (dL S 0 l (vs σ)) d'=some v:=mZ h1 h2 hv (by rw[Nat.zero_add];exact hS) c3
  cases hl:look (dL (fun k=>bc (direct o) k) 0 l (vs σ)) d' with
  |none=>
   simp only;rw[fK]
   cases hf:look F0 d' with
   |none=>simp only;exact h0
   |some y=>exact absurd (iK hf) c2
  |some x=>
   obtain⟨i,oi,e1,e2,e3,-⟩:=fv hl
   have:i=j:=by
    by_cases hij:i=j
    ·exact hij
    ·exact absurd e2 (c3 i oi e1 hij)
   subst this;rw[hv] at e3;exact e3.symm
theorem ae.mh {σT:Type}{l:List Oper}{vs:σT→List Value}{X:σT→(Nat→Bool)→World→Prop}{σ σ':σT}{S:Nat→Bool}{k:Nat}{o:Oper}{w':World}(hchk:iz n (jB F0) 0 [] l=true)(ho:l[k]? =some o)(hd:o.dst=none)(hj:∀j,S j=true→(vs σ')[j]? =(vs σ)[j]?)(hX:X σ' (fR S k) w'):
  ae (Exit.then (tP l n F0 vs X S k) Q) .normal n (lp l F0 (vs σ) S o) w':=by
 intro a ha
 have hF:∀t v,look F0 t=some v→a.tmps[t]? =some v:=fun t v ht=>by
  have hk:=iK ht
  have hnone:∀S',look (dL S' 0 l (vs σ)) t=none:=fun S'=>by
   cases hl:look (dL S' 0 l (vs σ)) t with
   |none=>rfl
   |some x=>
    obtain⟨j,o',h1,h2,-,-⟩:=fv hl;exact absurd hk (iN hchk h1 h2).2.1
  refine ha.slot t v ?_;unfold lp;rw[fK,hnone];simp only;rw[fK,ht]
 refine⟨σ',⟨ha.size,ha.defers,hF⟩,fun j o' d' v h1 h2 h3 h4=> ?_,hX⟩
 have hjk:j≠k:=fun e=>by
  subst e;rw[ho] at h1;injection h1 with h1
  subst h1;rw[hd] at h2
  cases h2
 have hS:S j=true:=by unfold fR at h3;rwa [if_neg hjk] at h3
 have hv:(vs σ)[j]? =some v:=by rw[←hj j hS];exact h4
 obtain⟨c1,c2,c3⟩:=iN hchk h1 h2;refine ha.slot d' v ?_;unfold lp;rw[fK];have h0:look (dL S 0 l (vs σ)) d'=some v:=mZ h1 h2 hv (by rw[Nat.zero_add];exact hS) c3
 cases hl:look (dL (fun k=>bc (direct o) k) 0 l (vs σ)) d' with
 |none=>
  simp only;rw[fK]
  cases hf:look F0 d' with
  |none=>simp only;exact h0
  |some y=>exact absurd (iK hf) c2
 |some x=>
  obtain⟨i,oi,e1,e2,e3,-⟩:=fv hl
  have:i=j:=by
   by_cases hij:i=j
   ·exact hij
   ·exact absurd e2 (c3 i oi e1 hij)
  subst this;rw[hv] at e3;exact e3.symm
def Ac:List Oper→List Value→List (Nat × Value)→List (Nat × Value)
 |o::r,v::vs,F=>match o.dst with
  |some d=>(d,v)::Ac r vs F
  |none=>Ac r vs F
 |_,_,F=>F
theorem sF:∀ {l:List Oper} {vs:List Value} {F:List (Nat × Value)} {t:Nat} {v:Value},look (Ac l vs F) t=some v→(∃(j:Nat) (o:Oper),l[j]? =some o∧o.dst=some t∧vs[j]? =some v)∨look F t=some v
 | [],_,_,_,_,h=> .inr h
 |_::_,[],_,_,_,h=> .inr h
 |o::r,u::vs,F,t,v,h=>by
  have up:look (Ac r vs F) t=some v→(∃(j:Nat) (o':Oper),(o::r)[j]? =some o'∧o'.dst=some t∧(u::vs)[j]? =some v)∨look F t=some v:=fun h=>by
   rcases sF h with ⟨j,o',h1,h2,h3⟩|h
   ·exact .inl ⟨j+1,o',by simpa using h1,h2,by simpa using h3⟩
   ·exact .inr h
  unfold Ac at h
  cases hd:o.dst with
  |none=>rw[hd] at h;exact up h
  |some d=>
   rw[hd] at h;simp only at h;rcases bZ h with ⟨rfl,rfl⟩|⟨_,h⟩
   ·exact .inl ⟨0,o,rfl,hd,rfl⟩
   ·exact up h
theorem qP (m i:Nat):(Array.replicate m false).getD i false=false:=by by_cases h:i<m<;>simp[h]
def x9 (ds:List Nat):Nat→Bool
 |0=>true
 |k+1=>bc ds k&&x9 ds k
theorem qZ {ds:List Nat}:∀ {m:Nat},x9 ds m=true→∀i,i<m→i∈ds
 |0,_,i,hi=>by omega
 |m+1,h,i,hi=>by
  unfold x9 at h;simp only[Bool.and_eq_true] at h;rcases Nat.lt_or_ge i m with h1|h1
  ·exact qZ h.2 i h1
  ·obtain rfl:i=m:=by omega
   exact ao h.1
def tk (m:Nat):List Oper→Bool
 | []=>true
 |o::r=>x9 (direct o) m&&kG m (direct o)&&nO (m+1) r
theorem Cd.jo {σT:Type}(m:Nat){id:Nat}{l:List Oper}{w:World}(hm:P.follows .mixedOrders=true)(hchk:iz n (jB F0) 0 [] (l.take m)=true)(hrest:tk (l.take m).length (l.drop m)=true)(vs:σT→List Value)(X:σT→(Nat→Bool)→World→Prop)(σ0:σT)
  (h0:∀w0,Below w.heap.size w w0→w0.heap.size=w.heap.size→X σ0 (fun _=>false) w0)
  (hstep:∀(k:Nat) (o:Oper),(l.take m)[k]? =some o→FT P l.toArray Q (l.take m) n F0 vs X k o)
  (hfin:∀(σ:σT) (S:Nat→Bool) (w:World),(∀i,i<(l.take m).length→S i=true)→X σ S w→Seq P l.toArray Q (l.drop m) n (Ac (l.take m) (vs σ) F0) w):Cd P (.region id l.toArray true) Q n F0 w:=by
 have hops:l.toArray=(l.take m++l.drop m).toArray:=by rw[List.take_append_drop]
 revert hchk hrest hstep hfin
 generalize l.take m=init at *
 generalize l.drop m=tail at *
 intro hchk hrest hstep hfin
 generalize l.toArray=ops at *
 intro a ha;refine wp_region_any hm ?_;have hw0:=h0 {w with drawn:=w.drawn+1} ⟨rfl,rfl,rfl,Nat.le_refl _,fun _ _=>rfl⟩ rfl;have c1:=fC hchk;have hsz:ops.size=init.length+tail.length:=by rw[hops];simp
 have hat:∀i,i<init.length→ops[i]? =init[i]? :=fun i hi=>by rw[hops];simp[List.getElem?_append_left hi]
 have hat2:∀r,ops[init.length+r]? =tail[r]? :=fun r=>by rw[hops];simp[List.getElem?_append_right]
 have t0:∀o,tail[0]? =some o→(∀x∈direct o,x<init.length)∧∀i,i<init.length→i∈direct o:=by
  intro o ho
  cases tail with
  |nil=>simp at ho
  |cons o1 r=>
   obtain rfl:o1=o:=by simpa using ho
   unfold tk at hrest;simp only[Bool.and_eq_true] at hrest;exact⟨dX hrest.1.2,qZ hrest.1.1⟩
 have ts:∀i o,tail[i+1]? =some o→(∀x∈direct o,x<init.length+1+i)∧init.length+1+i-1∈direct o:=by
  intro i o ho
  cases tail with
  |nil=>simp at ho
  |cons o1 r=>
   unfold tk at hrest;simp only[Bool.and_eq_true] at hrest;exact iw hrest.2 i o (by simpa using ho)
 have key:∀(fuel:Nat) (listed:Array Bool) (σ:σT) (a:Act) (w:World),listed.size=ops.size→Cs init (fun j=>listed.getD j false)→(∀i,init.length≤i→i<ops.size→listed.getD i true=false)→Fr n F0 a→(∀(j:Nat) (o:Oper) (d:Nat) (v:Value),init[j]? =some o→o.dst=some d→listed.getD j false=true→(vs σ)[j]? =some v→a.tmps[d]? =some v)→X σ (fun j=>listed.getD j false) w→left listed ops.size≤fuel→wpAny P .any ops Q fuel listed a w:=by
  have fin:∀(fuel:Nat) (listed:Array Bool) (σ:σT) (a:Act) (w:World),listed.size=ops.size→(∀i,i<init.length→listed.getD i true=true)→(∀i,init.length≤i→i<ops.size→listed.getD i true=false)→Fr n F0 a→(∀(j:Nat) (o:Oper) (d:Nat) (v:Value),init[j]? =some o→o.dst=some d→listed.getD j false=true→(vs σ)[j]? =some v→a.tmps[d]? =some v)→X σ (fun j=>listed.getD j false) w→left listed ops.size≤fuel→wpAny P .any ops Q fuel listed a w:=by
   intro fuel listed σ a w hl hall hts hF hD hX hf
   have hb:∀i,i<init.length→listed.getD i false=true:=fun i hi=>by
    have h1:=hall i hi;have h2:i<listed.size:=by omega
    simp[h2] at h1⊢;exact h1
   have hleft:∀k,k≤ops.size→left listed k=k-init.length:=by
    intro k
    induction k with
    |zero=>intro _;show 0=0-init.length;omega
    |succ k ihk=>
     intro hk;unfold left;rw[ihk (by omega)];rcases Nat.lt_or_ge k init.length with h1|h1
     ·rw[if_pos (hall k h1)];omega
     ·rw[if_neg (by rw[hts k h1 (by omega)];simp)];omega
   refine qL hops (fun o ho=>(t0 o ho).1) ts fuel 0 listed a w hl (Nat.zero_le _) (fun i hi=>hall i (by omega)) (fun i hi hi2=>hts i (by omega) hi2) (by have:=hleft ops.size (Nat.le_refl _);omega) ?_;rw[List.drop_zero];refine hfin σ _ w hb hX a ⟨hF.size,hF.defers,fun t v ht=> ?_⟩;rcases sF ht with ⟨j,o,h1,h2,h3⟩|h
   ·exact hD j o t v h1 h2 (hb j (List.getElem?_eq_some_iff.1 h1).1) h3
   ·exact hF.slot t v h
  intro fuel
  induction fuel with
  |zero=>
   intro listed σ a w hl hdc hts hF hD hX hf;have hall:=mj (Nat.le_zero.1 hf);exact fin 0 listed σ a w hl (fun i hi=>hall i (by omega)) hts hF hD hX hf
  |succ fuel ih=>
   intro listed σ a w hl hdc hts hF hD hX hf
   by_cases hdone:∀i,i<init.length→listed.getD i true=true
   ·exact fin _ listed σ a w hl hdone hts hF hD hX hf
   have hex:∃i,i∈Region.ready .any ops listed:=by
    refine Classical.byContradiction fun hno=>hdone ?_
    have this:∀i,(∀j,j<i→j<init.length→listed.getD j true=true)→i<init.length→listed.getD i true=true:=fun i hlt hi=>by
     cases hb:listed.getD i true with
     |true=>rfl
     |false=>
      exfalso;refine hno ⟨i,dc.2 ⟨hb,init[i],by rw[hat i hi,List.getElem?_eq_getElem hi],fun x hx=> ?_⟩⟩;have hxi:=(c1 i _ (List.getElem?_eq_getElem hi)).1 x hx;have h1:=hlt x (by omega) (by omega);have h2:x<listed.size:=by omega
      simp[h2] at h1⊢;exact h1
    have all:∀m i,i≤m→i<init.length→listed.getD i true=true:=by
     intro m
     induction m using Nat.strongRecOn with
     |_ m ihm=>intro i him hi;exact this i (fun j hj hjl=>ihm j (by omega) j (Nat.le_refl _) hjl) hi
    exact fun i hi=>all i i (Nat.le_refl _) hi
   refine⟨fun hnil=>(by obtain⟨i,hi⟩:=hex;rw[hnil] at hi;cases hi),fun i hi=> ?_⟩
   ·obtain⟨g1,o,ho,g2⟩:=dc.1 hi
    have hio:=(Array.getElem?_eq_some_iff.1 ho).1
    have hil:i<init.length:=by
     rcases Nat.lt_or_ge i init.length with h|h
     ·exact h
     ·exfalso
      obtain⟨q,rfl⟩:∃q,i=init.length+q:=⟨i-init.length,by omega⟩;rw[hat2] at ho
      cases q with
      |zero=>
       refine hdone fun j hj=> ?_;have h1:=g2 j ((t0 o ho).2 j hj);have h2:j<listed.size:=by omega
       simp[h2] at h1⊢;exact h1
      |succ q=>
       have h1:=g2 _ (ts q o ho).2;have h2:=hts (init.length+1+q-1) (by omega) (by omega);rw[getD_both h2] at h1
       cases h1
    rw[hat i hil] at ho;have hSi:listed.getD i false=false:=getD_both g1
    have hst:=hstep i o ho σ (fun j=>listed.getD j false) w hSi g2 hdc hX a ⟨hF.size,hF.defers,fun t v ht=>by
     unfold lp at ht;rw[fK] at ht
     cases h1:look (dL (fun k=>bc (direct o) k) 0 init (vs σ)) t with
     |some x=>
      rw[h1] at ht;injection ht with ht
      subst ht;obtain⟨j,oj,e1,e2,e3,e4⟩:=fv h1;rw[Nat.zero_add] at e4;exact hD j oj t x e1 e2 (g2 j (ao e4)) e3
     |none=>
      rw[h1] at ht;simp only at ht;rw[fK] at ht
      cases h2:look F0 t with
      |some x=>
       rw[h2] at ht;injection ht with ht
       subst ht;exact hF.slot t x h2
      |none=>
       rw[h2] at ht;simp only at ht;obtain⟨j,oj,e1,e2,e3,e4⟩:=fv ht;rw[Nat.zero_add] at e4;exact hD j oj t v e1 e2 e4 e3⟩
    have hupd:(fun j=>(listed.setIfInBounds i true).getD j false)=fR (fun j=>listed.getD j false) i:=by
     funext j
     unfold fR
     by_cases e:i=j
     ·subst e;simp[gU false (show i<listed.size by omega)]
     ·rw[getD_set_ne false e,if_neg (fun h=>e h.symm)]
    have next:∀a' w',tP init n F0 vs X (fun j=>listed.getD j false) i a' w'→wpAny P .any ops Q fuel (listed.setIfInBounds i true) a' w':=by
     rintro a' w' ⟨σ',h1,h2,h3⟩;rw[←hupd] at h3;refine ih _ σ' a' w' (by simp[hl]) ?_ (fun j h4 h5=>by rw[getD_set_ne true (by omega)];exact hts j h4 h5) h1 (fun j oj d v e1 e2 e3 e4=>h2 j oj d v e1 e2 (by rw[←hupd];exact e3) e4) h3 ?_
     ·intro i2 o2 e1 e2 x hx
      simp only at e2⊢
      by_cases e:i=i2
      ·subst e
       rw[ho] at e1;injection e1 with e1
       subst e1;exact getD_set_true (g2 x hx)
      ·rw[getD_set_ne false e] at e2
       exact getD_set_true (hdc i2 o2 e1 e2 x hx)
     ·have:=nD (listed:=listed) (i:=i) (by omega) g1 ops.size
      rw[if_pos hio] at this;omega
    unfold wpOp;rw[hat i hil,ho];simp only;unfold wpList at hst
    by_cases hwant:Region.wanted o (yielded ops a.tmps)=true
    ·rw[if_pos hwant] at hst⊢
     rcases hst with hst|⟨h1,h2⟩
     ·exact .inl (Oper.wp_mono next (zF (Oper.wp_mono (fun a' w' h=>h) hst)))
     ·exact .inr ⟨h1,h2⟩
    ·rw[if_neg hwant] at hst⊢
     exact next _ _ hst
 refine key ops.size _ σ0 a _ (by simp) (fun i o _ h=> ?_) (fun i _ h=>by simp[h]) ha (fun j o d v _ _ h _=> ?_) ?_ ?_
 ·simp only[qP] at h;cases h
 ·rw[qP] at h;cases h
 ·have hrep:(fun j=>(Array.replicate ops.size false).getD j false)=fun _=>false:=funext fun i=>qP _ i
  rw[hrep];exact hw0
 ·have:∀k,left (Array.replicate ops.size false) k≤k:=by
   intro k
   induction k with
   |zero=>exact Nat.le_refl _
   |succ k ih=>unfold left;split<;>omega
  exact this _
end
end Go.Proofs.YtigoimhndlnhfaaGreat
namespace Go.Proofs.YtigoimhndlnhfaaGreat
open Go.RowKit
structure Kp (w w':World):Prop where
 size:w.heap.size≤w'.heap.size
 eQ:∀k t cs,aH w k t cs→t≠71→t≠105→t≠219→aH w' k t cs
section
variable {w w' w'':World}
theorem Kp.refl (w:World):Kp w w:=⟨Nat.le_refl _,fun _ _ _ h _ _ _=>h⟩
theorem Kp.trans (a:Kp w w')(b:Kp w' w''):Kp w w'':=⟨Nat.le_trans a.size b.size,fun k t cs h h1 h2 h3=>b.eQ k t cs (a.eQ k t cs h h1 h2 h3) h1 h2 h3⟩
theorem Kp.step (a:Kp w w')(b:Below w'.heap.size w' w''):Kp w w'':=a.trans ⟨b.size,fun _ _ _ h _ _ _=>h.step b⟩
theorem Kp.fz {g:Nat}{cs:Array Value}(a:Kp w w')(k:aH w' g 219 cs)(b:Fz w'.heap.size g w' w''):Kp w w'':=a.trans ⟨b.size,fun i t cs h _ _ h3=>h.fz b fun e=>h3 (by
 subst e;have h1:w'.heap[i]? =_:=h;have h2:w'.heap[i]? =_:=k;rw[h1] at h2;injection h2 with h2
 injection h2)⟩
theorem Kp.put {g:Nat}{E:Prop}{T:TypeId}{cur cs:Array Value}(a:Kp w w')(k:aH w' g T cur)(p:lu w' w'' g T cs)(_e:E)(hT:(T=71∨T=105∨T=219)∨w.heap.size≤g:=by first|exact .inl (by decide)|exact .inr (by omega)):Kp w w'':=by
 refine⟨Nat.le_trans a.size (Nat.le_of_eq p.size.symm),fun i t cs h h1 h2 h3=> ?_⟩;rcases hT with hT|hg
 ·exact(a.eQ i t cs h h1 h2 h3).put p ((a.eQ i t cs h h1 h2 h3).ne k (by rcases hT with rfl|rfl|rfl<;>assumption))
 ·exact(a.eQ i t cs h h1 h2 h3).put p (by have:=h.lt;omega)
theorem Kp.app {B n size:Nat}{e:TypeId}{v:Value}{xs:List Value}(a:Kp w w')(o:Own w' B e size v n xs)(ha:App w' w'' B v)(hT:e=71∨e=105:=by decide):Kp w w'':=
 a.trans ⟨ha.below.size,fun i t cs h h1 h2 _=>h.grown ha.grown (fun e'=>gf o.row h (by rcases hT with rfl|rfl<;>exact fun e=>by first|exact h1 e.symm|exact h2 e.symm) e'.symm)⟩
end
theorem Kp.an {w w':World}{k:Nat}{t:TypeId}{cs:Array Value}(a:Kp w w')(h:aH w k t cs)(h1:t≠71:=by decide)(h2:t≠105:=by decide)(h3:t≠219:=by decide):aH w' k t cs:=a.eQ k t cs h h1 h2 h3
structure dw (W:World)(h gt:Nat)(es:List Ex)(ts:List Tm)(evs tvs:List Value)(vE vT:Value)(S:Nat→Prop):Prop where
 uE:evs.length=es.length
 xl:tvs.length=ts.length
 fB:Own W h 105 4 vE es.length (aN evs)
 fO:Own W h 71 4 vT ts.length (aN tvs)
 Ba:∀(i:Nat) (e:Ex) (v:Value),es[i]? =some e→evs[i]? =some v→cw W S e v
 Dp:∀(i:Nat) (t:Tm) (v:Value),ts[i]? =some t→tvs[i]? =some v→dr W S t v
 C3:∀b,S b→h≤b∧b<W.heap.size∧b≠gt∧vE.ownBlock≠some b∧vT.ownBlock≠some b
 zL:vE.ownBlock≠some gt
 zK:vT.ownBlock≠some gt
section
variable {W W':World} {h gt g:Nat} {es:List Ex} {ts:List Tm} {evs tvs:List Value} {vE vT:Value} {S:Nat→Prop}
theorem Own.kB {B n size:Nat}{e:TypeId}{v:Value}{xs:List Value}(o:Own W B e size v n xs)(hs:W.heap.size≤W'.heap.size)(hb:∀b,v.ownBlock=some b→W'.heap[b]? =W.heap[b]?):Own W' B e size v n xs:=by
 obtain⟨h1,⟨h2,h3⟩|⟨g,cap,cur,rfl,e2,e3,e4⟩⟩:=o.row
 ·exact⟨h1, .inl ⟨h2,h3⟩⟩
 ·exact⟨h1, .inr ⟨g,cap,cur,rfl,e2,(hb g rfl).trans e3,e4⟩⟩
theorem dw.eQ (a:dw W h gt es ts evs tvs vE vT S)(hs:W.heap.size≤W'.heap.size)(hb:∀b,h≤b→b<W.heap.size→b≠gt→W'.heap[b]? =W.heap[b]?):dw W' h gt es ts evs tvs vE vT S:=by
 have hS:∀p:Addr,S p.block→W'.cell? p=W.cell? p:=fun p hp=>by
  obtain⟨b1,b2,b3,-,-⟩:=a.C3 _ hp;exact World.cell?_of_block (hb _ b1 b2 b3)
 refine⟨a.uE,a.xl,a.fB.kB hs fun b e=> ?_,a.fO.kB hs fun b e=> ?_,fun i e v h1 h2=>(a.Ba i e v h1 h2).mono (fun _ h=>h) hS,fun i e v h1 h2=>(a.Dp i e v h1 h2).mono (fun _ h=>h) hS,fun b hb=> ?_,a.zL,a.zK⟩
 ·obtain⟨h1,h2⟩:=a.fB.aS b e
  exact hb b h1 h2 fun e'=>a.zL (by rw[e,e'])
 ·obtain⟨h1,h2⟩:=a.fO.aS b e
  exact hb b h1 h2 fun e'=>a.zK (by rw[e,e'])
 ·obtain⟨b1,b2,b3,b4,b5⟩:=a.C3 b hb
  exact⟨b1,by omega,b3,b4,b5⟩
theorem dw.fz (a:dw W h gt es ts evs tvs vE vT S)(f:Fz W.heap.size g W W')(hg:g<h):dw W' h gt es ts evs tvs vE vT S:=a.eQ f.size fun b h1 h2 _=>f.block b h2 (by omega)
theorem dw.step (a:dw W h gt es ts evs tvs vE vT S)(f:Below W.heap.size W W'):dw W' h gt es ts evs tvs vE vT S:=a.eQ f.size fun b _ h2 _=>f.block b h2
theorem dw.put {T:TypeId}{cur cs:Array Value}{B:Nat}(a:dw W h gt es ts evs tvs vE vT S)(_k:aH W gt T cur)(p:lu W W' gt T cs)(_e:B≤gt):dw W' h gt es ts evs tvs vE vT S:=a.eQ (Nat.le_of_eq p.size.symm) fun b _ h2 h3=>p.grown.block b h2 fun e=>h3 (by injection e)
end
theorem Own.pL {w:World}{B s n:Nat}{e:TypeId}{v:Value}{xs ys:List Value}(o:Own w B e s v (n+1) (xs++ys))(hl:xs.length=n*s):∃g cap cur,v= .slice (some ⟨g,0,none⟩) (n+1) cap∧B≤g∧g<w.heap.size∧aH w g e cur∧n*s+s≤cur.size∧
  ∀(w':World) (cs:Array Value),cs.size=s→lu w w' g e (cur.toList.take (n*s)++(cs.toList++cur.toList.drop (n*s+cs.size))).toArray→Own w' B e s v (n+1) (xs++cs.toList):=by
 obtain⟨h1,⟨-,h3⟩|⟨g,cap,cur,rfl,e2,e3,e4,e5,e6,e7⟩⟩:=o.row
 ·omega
 ·have hk:aH w g e cur:=e3
  have hm:(n+1)*s≤cap*s:=Nat.mul_le_mul_right s e4;have hns:(n+1)*s=n*s+s:=Nat.succ_mul n s;refine⟨g,cap,cur,rfl,e2,hk.lt,hk,by omega,fun w' cs hcs p=>⟨?_, .inr ⟨g,cap,_,rfl,e2,p.an,e4,e5,?_,?_⟩⟩⟩
  ·have:cs.toList.length=s:=by simpa using hcs
   rw[List.length_append,hl,this,hns]
  ·have h9:cur.toList.length=cap*s:=by simpa using e6
   have:cs.toList.length=s:=by simpa using hcs
   simp only[List.size_toArray,List.length_append,List.length_take,List.length_drop,this,h9,hcs];omega
  ·have h9:cur.toList.length=cap*s:=by simpa using e6
   have h10:cs.toList.length=s:=by simpa using hcs
   have htk:cur.toList.take (n*s)=xs:=by
    have:=congrArg (List.take (n*s)) e7;rw[List.take_take,Nat.min_eq_left (by omega),←hl,List.take_left' rfl] at this;rw[←hl];exact this
   rw[htk,←List.append_assoc,hns,List.take_left' (by rw[List.length_append,hl,h10])]
theorem Own.two {W:World}{B B' n m s s':Nat}{e e':TypeId}{v u:Value}{xs ys:List Value}(o:Own W B e s v n xs)(o':Own W B' e' s' u m ys)(hne:e≠e'):Gv v u:=fun b h1 h2=>by
 obtain⟨-,⟨rfl,-⟩|⟨g,cap,cur,rfl,-,e3,-⟩⟩:=o.row
 ·cases h1
 obtain⟨-,⟨rfl,-⟩|⟨g',cap',cur',rfl,-,e3',-⟩⟩:=o'.row
 ·cases h2
 injection h1 with h1
 injection h2 with h2
 have h1:g=b:=h1;have h2:g'=b:=h2;subst h1;subst h2;rw[e3] at e3';injection e3' with e3'
 injection e3' with _ e3'
 exact hne e3'
theorem dw.Cc {W W':World}{h gt:Nat}{es:List Ex}{ts:List Tm}{evs tvs:List Value}{vE vT vE':Value}{S S':Nat→Prop}(a:dw W h gt es ts evs tvs vE vT S){x:Ex}{v:Value}(hr:cw W S' x v)(hS':∀b,S' b→h≤b∧b<W.heap.size∧b≠gt∧vE.ownBlock≠some b∧vT.ownBlock≠some b)
  (o:Own W' h 105 4 vE' (es.length+1) (aN evs++v.cells.toList)) (hs:W.heap.size≤W'.heap.size) (hb:∀b,h≤b→b<W.heap.size→b≠gt→vE.ownBlock≠some b→W'.heap[b]? =W.heap[b]?) (hv':vE'.ownBlock=vE.ownBlock∨∃N,vE'.ownBlock=some N∧W.heap.size≤N) (hgt:gt<W.heap.size):
  dw W' h gt (es++[x]) ts (evs++[v]) tvs vE' vT (fun b=>S b∨S' b):=by
 have htwo:Gv vE vT:=a.fB.two a.fO (by decide);have hS:∀b,(S b∨S' b)→h≤b∧b<W.heap.size∧b≠gt∧vE.ownBlock≠some b∧vT.ownBlock≠some b:=fun b hb=>hb.elim (a.C3 b) (hS' b)
 have hc:∀p:Addr,(S p.block∨S' p.block)→W'.cell? p=W.cell? p:=fun p hp=>by
  obtain⟨b1,b2,b3,b4,-⟩:=hS _ hp;exact World.cell?_of_block (hb _ b1 b2 b3 b4)
 have hneE:∀b,b<W.heap.size→vE.ownBlock≠some b→vE'.ownBlock≠some b:=fun b h1 h2 h3=>by
  rcases hv' with e|⟨N,e,hN⟩
  ·exact h2 (by rw[←e,h3])
  ·rw[e] at h3;injection h3 with h3;omega
 refine⟨by simp[a.uE],a.xl,?_,a.fO.kB hs fun b e=> ?_,fun i e u h1 h2=> ?_,fun i t u h1 h2=>(a.Dp i t u h1 h2).mono (fun _ h=> .inl h) (fun p hp=>hc p (.inl hp)),fun b hb'=> ?_,hneE gt hgt a.zL,a.zK⟩
 ·have hf:aN (evs++[v])=aN evs++v.cells.toList:=by rw[nA];simp[aN]
  rw[hf,List.length_append];exact o
 ·obtain⟨h1,h2⟩:=a.fO.aS b e
  exact hb b h1 h2 (fun e'=>a.zK (by rw[e,e'])) (fun e'=>htwo b e' e)
 ·rcases Nat.lt_or_ge i es.length with hi|hi
  ·rw[List.getElem?_append_left hi] at h1
   rw[List.getElem?_append_left (by rw[a.uE];exact hi)] at h2;exact(a.Ba i e u h1 h2).mono (fun _ h=> .inl h) (fun p hp=>hc p (.inl hp))
  ·rw[List.getElem?_append_right hi] at h1
   rw[List.getElem?_append_right (by rw[a.uE];exact hi),a.uE] at h2
   have h0:i-es.length=0:=by
    have:=(List.getElem?_eq_some_iff.1 h1).1;simp at this;exact this
   rw[h0] at h1 h2;injection h1 with h1
   injection h2 with h2
   subst h1 h2;exact hr.mono (fun _ h=> .inr h) (fun p hp=>hc p (.inr hp))
 ·obtain⟨b1,b2,b3,b4,b5⟩:=hS b hb'
  exact⟨b1,by omega,b3,hneE b b2 b4,b5⟩
theorem dw.AI {W W':World}{h gt:Nat}{es:List Ex}{ts:List Tm}{evs tvs:List Value}{vE vT vT':Value}{S S':Nat→Prop}(a:dw W h gt es ts evs tvs vE vT S){x:Tm}{v:Value}(hr:dr W S' x v)(hS':∀b,S' b→h≤b∧b<W.heap.size∧b≠gt∧vE.ownBlock≠some b∧vT.ownBlock≠some b)
  (o:Own W' h 71 4 vT' (ts.length+1) (aN tvs++v.cells.toList)) (hs:W.heap.size≤W'.heap.size) (hb:∀b,h≤b→b<W.heap.size→b≠gt→vT.ownBlock≠some b→W'.heap[b]? =W.heap[b]?) (hv':vT'.ownBlock=vT.ownBlock∨∃N,vT'.ownBlock=some N∧W.heap.size≤N) (hgt:gt<W.heap.size):
  dw W' h gt es (ts++[x]) evs (tvs++[v]) vE vT' (fun b=>S b∨S' b):=by
 have htwo:Gv vE vT:=a.fB.two a.fO (by decide);have hS:∀b,(S b∨S' b)→h≤b∧b<W.heap.size∧b≠gt∧vE.ownBlock≠some b∧vT.ownBlock≠some b:=fun b hb=>hb.elim (a.C3 b) (hS' b)
 have hc:∀p:Addr,(S p.block∨S' p.block)→W'.cell? p=W.cell? p:=fun p hp=>by
  obtain⟨b1,b2,b3,-,b4⟩:=hS _ hp;exact World.cell?_of_block (hb _ b1 b2 b3 b4)
 have hneT:∀b,b<W.heap.size→vT.ownBlock≠some b→vT'.ownBlock≠some b:=fun b h1 h2 h3=>by
  rcases hv' with e|⟨N,e,hN⟩
  ·exact h2 (by rw[←e,h3])
  ·rw[e] at h3;injection h3 with h3;omega
 refine⟨a.uE,by simp[a.xl],a.fB.kB hs fun b e=> ?_,?_,fun i e u h1 h2=>(a.Ba i e u h1 h2).mono (fun _ h=> .inl h) (fun p hp=>hc p (.inl hp)),fun i t u h1 h2=> ?_,fun b hb'=> ?_,a.zL,hneT gt hgt a.zK⟩
 ·obtain⟨h1,h2⟩:=a.fB.aS b e
  exact hb b h1 h2 (fun e'=>a.zL (by rw[e,e'])) (fun e'=>htwo b e e')
 ·have hf:aN (tvs++[v])=aN tvs++v.cells.toList:=by rw[nA];simp[aN]
  rw[hf,List.length_append];exact o
 ·rcases Nat.lt_or_ge i ts.length with hi|hi
  ·rw[List.getElem?_append_left hi] at h1
   rw[List.getElem?_append_left (by rw[a.xl];exact hi)] at h2;exact(a.Dp i t u h1 h2).mono (fun _ h=> .inl h) (fun p hp=>hc p (.inl hp))
  ·rw[List.getElem?_append_right hi] at h1
   rw[List.getElem?_append_right (by rw[a.xl];exact hi),a.xl] at h2
   have h0:i-ts.length=0:=by
    have:=(List.getElem?_eq_some_iff.1 h1).1;simp at this;exact this
   rw[h0] at h1 h2;injection h1 with h1
   injection h2 with h2
   subst h1 h2;exact hr.mono (fun _ h=> .inr h) (fun p hp=>hc p (.inr hp))
 ·obtain⟨b1,b2,b3,b4,b5⟩:=hS b hb'
  exact⟨b1,by omega,b3,b4,hneT b b2 b5⟩
def pb (W:World)(x:Ex)(v:Value)(W':World):Prop:=∃S:Nat→Prop,cw W' S x v∧∀b,S b→W.heap.size≤b∧b<W'.heap.size
def AW (W:World)(x:Tm)(v:Value)(W':World):Prop:=∃S:Nat→Prop,dr W' S x v∧∀b,S b→W.heap.size≤b∧b<W'.heap.size
structure XA {α:Type}(rE:World→(Nat→Prop)→α→Value→Prop)(K:Ctx)(w1:World)(p d:Nat)(r:Rs α)(done made:Bool)(S':Nat→Prop)(v:Value)(g7:Nat)(zt:TypeId)(zc:Array Value)(w:World):Prop where
 fz:Fz w1.heap.size K.g w1 w
 pre:done=false→PW K w p d false
 post:done=true→∃x p',r= .ok x p'∧PW K w p' d false∧rE w S' x v∧∀b,S' b→w1.heap.size≤b∧b<w.heap.size
 new:made=true→w1.heap.size≤g7∧aH w g7 zt zc∧(done=true→¬S' g7)
theorem aH.Ad {w w':World}{k g:Nat}{T T':TypeId}{cs cs':Array Value}{h:Nat}(b:aH w k T cs)(q:aH w g T' cs')(a:Fz h g w w')(hh:w.heap.size≤h)(hne:T≠T':=by decide):aH w' k T cs:=b.fz (a.less hh) (b.ne q hne)
theorem dr.aV {w:World}{S:Nat→Prop}{t:Tm}{v:Value}(h:dr w S t v):v.cells.size=4∧∀u∈v.cells.toList,u.oneCell'=true:=by
 obtain⟨A,c,A',c',rfl⟩:=h.form;refine⟨rfl,fun u hu=> ?_⟩;simp[Value.cells] at hu;rcases hu with rfl|rfl|rfl|rfl<;>rfl
theorem cw.aV {w:World}{S:Nat→Prop}{t:Ex}{v:Value}(h:cw w S t v):v.cells.size=4∧∀u∈v.cells.toList,u.oneCell'=true:=by
 obtain⟨A,c,rfl⟩:=h.form;refine⟨rfl,fun u hu=> ?_⟩;simp[Value.cells] at hu;rcases hu with rfl|rfl|rfl|rfl<;>rfl
theorem oF:bW Tryz.prog 4=some (some (.bool false)):=by kernel_rfl
theorem jf:∀ {l:List Value},(∀u∈l,u.oneCell'=true)→aV l
 | [],_=>trivial
 |v::r,h=>⟨h v List.mem_cons_self,jf fun u hu=>h u (List.mem_cons_of_mem _ hu)⟩
theorem Bl (K:Ctx)(hK:K.Ok)(h0 gt b0 b1 d p:Nat)(op:Int)(nm:List Nat)(es:List Ex)(ts:List Tm)(evs tvs:List Value)(vE vT:Value)(S0:Nat→Prop)(T:Nat→Nat→Rs Tm)(w:World)(pw:PW K w p d false)(hg0:K.g<h0)(hgt:h0≤gt)(hh:h0≤w.heap.size)
  (kt:aH w gt 71 #[.int .i64 op, .string (strOf nm),vE,vT]) (kb0:aH w b0 227 #[.pointer (some ⟨gt,0,none⟩)]) (kb1:aH w b1 189 #[.pointer (some ⟨K.g,0,none⟩)]) (aq:dw w h0 gt es ts evs tvs vE vT S0) (hl:ts.length≤10)
  (hc:∀W,PW K W p d false→Fz w.heap.size K.g w W→Calls Tryz.prog 128 #[.pointer (some ⟨K.g,0,none⟩)] W (PR K W d (T p d) (AW W))) (hne:T p d≠ .out):
  Calls Tryz.prog 212 #[.pointer (some ⟨b0,0,none⟩), .pointer (some ⟨b1,0,none⟩)] w (vJ K h0 w d (T p d) fun x _ W'=>Kp w W'∧∃evs tvs vE vT S,aH W' gt 71 #[.int .i64 op, .string (strOf nm),vE,vT]∧dw W' h0 gt es (ts++[x]) evs tvs vE vT S):=by
 have hle:=hK.le;have hgg:K.g<w.heap.size:=pw.an.lt;have hgtl:gt<w.heap.size:=kt.lt;obtain⟨AE,cE,rfl,-⟩:=aq.fB.reads;obtain⟨AT,cT,rfl,-⟩:=aq.fO.reads;refine Zs 27 Tryz.func212 ?_;refine Cd.seq ?_;refine Cd.jo (σT:=Nat × Bool) 3 (by kernel_rfl) rfl rfl (fun σ=>[.pointer (some ⟨σ.1,0,none⟩),undef,undef]) (fun σ S W=>Below w.heap.size w W∧(S 0=true→w.heap.size≤σ.1∧aH W σ.1 4 #[.bool σ.2])) ((0,false)) ?_ ?_ ?_
 ·intro w0 hb0 hs0
  exact⟨hb0,fun h=>by cases h⟩
 ·intro k o ho
  match k,ho with
  |0,ho=>
   injection ho with ho
   subst ho;intro σ S w hS hpre hdc hX;refine Zl oF ?_;intro g2 w' n2;refine Seq.nil ?_;exact ae.aD (σ:=σ) (σ':=(g2,false)) rfl rfl rfl hpre rfl (fun j hj=>by cases j with|zero=>rw[hS] at hj;cases hj|succ j=>rfl) ⟨hX.1.trans (n2.below.mono hX.1.size),fun _=>⟨Nat.le_trans hX.1.size n2.ge,n2.an⟩⟩
  |1,ho=>
   injection ho with ho
   subst ho;intro σ S w hS hpre hdc hX;have h2:=hX.2 (hpre 0 (ao rfl));refine Zq h2.2 ?_;intro w' pq;refine Seq.nil ?_;exact ae.mh (σ:=σ) (σ':=(σ.1,true)) rfl rfl rfl (fun _ _=>rfl) ⟨pq.jY hX.1 h2.1 h2.2.lt,fun _=>⟨h2.1,pq.an⟩⟩
  |2,ho=>
   injection ho with ho
   subst ho;intro σ S w hS hpre hdc hX;have h2:=hX.2 (hpre 0 (ao rfl));refine Zq h2.2 ?_;intro w' pq;refine Seq.nil ?_;exact ae.mh (σ:=σ) (σ':=(σ.1,false)) rfl rfl rfl (fun _ _=>rfl) ⟨pq.jY hX.1 h2.1 h2.2.lt,fun _=>⟨h2.1,pq.an⟩⟩
  |k+3,ho=>simp at ho
 rintro⟨g2,b2⟩ S w2 hS ⟨bel2,hX⟩;obtain⟨e2,k2⟩:=hX (hS 0 (by decide));dsimp only at e2 k2;have pw2:=pw.step hle bel2;have kt2:=kt.step bel2;have kb02:=kb0.step bel2;have kb12:=kb1.step bel2;have aq2:=aq.step bel2;have hs2:=bel2.size;have fz2:Fz w.heap.size K.g w w2:=Fz.of bel2;have kp2:Kp w w2:=(Kp.refl w).step bel2;have hh2:h0≤w2.heap.size:=by omega
 clear pw kt kb0 kb1 aq hX;have hcall:∀W,PW K W p d false→Fz w2.heap.size K.g w2 W→Calls Tryz.prog 128 #[.pointer (some ⟨K.g,0,none⟩)] W (PR K W d (T p d) (AW W)):=fun W h1 h2=>hc W h1 (fz2.trans (h2.less hs2));refine ZL Tryz.underlying4 k2 ?_;refine bn 0 1 3 (Zt ?_);refine Cd.cond rfl (fun hcn=> ?_) (fun hcn=> ?_)
 ·skip
  refine Cd.seq ?_;refine Cd.jo (σT:=Value × (Nat→Prop) × Nat) 8 (by kernel_rfl) rfl rfl (fun σ=>[.pointer (some ⟨gt,0,none⟩), .pointer (some ⟨gt,0,none⟩), .pointer (some ⟨gt,3,none⟩), .slice AT ts.length cT, .pointer (some ⟨K.g,0,none⟩),σ.1, .int .i64 (ts.length:Int), .slice (some ⟨σ.2.2,0,none⟩) 1 1]) (fun σ S W=>XA dr K w2 p d (T p d) (S 5) (S 7) σ.2.1 σ.1 σ.2.2 71 #[.int .i64 0, .string {data:= #[]}, .slice none 0 0, .slice none 0 0] W) ((undef,fun _=>False,0)) ?_ ?_ ?_
  ·intro w0 hb0 hs0
   exact⟨Fz.of hb0,fun _=>pw2.step hle hb0,fun h=>(by cases h),fun h=>(by cases h)⟩
  ·intro k o ho
   match k,ho with
   |0,ho=>
    injection ho with ho
    subst ho;intro σ S w hS hpre hdc hX;refine Seq.val (aa.au (g:=b0) (i:=0) rfl rfl Tryz.underlying227 rfl (kb02.Ad pw2.an hX.fz (Nat.le_refl _)) rfl) rfl rfl rfl (Seq.nil ?_);exact ae.aD rfl rfl rfl hpre rfl (fun _ _=>rfl) hX
   |1,ho=>
    injection ho with ho
    subst ho;intro σ S w hS hpre hdc hX;refine Seq.val (aa.nilCheck rfl rfl) rfl rfl rfl (Seq.nil ?_);exact ae.aD rfl rfl rfl hpre rfl (fun _ _=>rfl) hX
   |2,ho=>
    injection ho with ho
    subst ho;intro σ S w hS hpre hdc hX;refine Seq.val (aa.gx 3 rfl rfl Tryz.underlying71 rfl (by kernel_rfl)) rfl rfl rfl (Seq.nil ?_);exact ae.aD rfl rfl rfl hpre rfl (fun _ _=>rfl) hX
   |3,ho=>
    injection ho with ho
    subst ho;intro σ S w hS hpre hdc hX;refine Seq.val (aa.au (g:=gt) (i:=3) rfl rfl Tryz.underlying69 rfl (kt2.fz hX.fz (by omega)) rfl) rfl rfl rfl (Seq.nil ?_);exact ae.aD rfl rfl rfl hpre rfl (fun _ _=>rfl) hX
   |4,ho=>
    injection ho with ho
    subst ho;intro σ S w hS hpre hdc hX;refine Seq.val (aa.au (g:=b1) (i:=0) rfl rfl Tryz.underlying189 rfl (kb12.Ad pw2.an hX.fz (Nat.le_refl _)) rfl) rfl rfl rfl (Seq.nil ?_);exact ae.aD rfl rfl rfl hpre rfl (fun _ _=>rfl) hX
   |5,ho=>
    injection ho with ho
    subst ho;intro σ S w hS hpre hdc hX;have hcl:=hcall w (hX.pre hS) hX.fz;rcases Rs.dA hne with ⟨q,ov,hr⟩|⟨x,q,hr⟩
    ·rw[hr] at hcl
     refine Seq.cZ (Ze Tryz.func128) rfl hcl ?_;rintro e w6 ⟨hf,rfl,d6,hp6⟩;refine⟨_,rfl,fun a ha=>⟨ha.defers,?_⟩⟩;rw[hr];exact⟨(fz2.trans ((hX.fz.call hf).less hs2)).less hh,rfl,d6,hp6⟩
    ·rw[hr] at hcl
     refine Zc (Ze Tryz.func128) hcl ?_;rintro e w6 ⟨hf,v6,rfl,hp6,S6,hr6,hb6⟩;refine⟨_,rfl,Seq.nil ?_⟩;have hsz:=hX.fz.size;refine ae.aD (σ:=σ) (σ':=(v6,S6,σ.2.2)) rfl rfl rfl hpre rfl (fun j hj=> ?_) ⟨hX.fz.call hf,(fun h=>by cases h),fun _=>⟨x,q,hr,hp6,hr6,fun b hb=>⟨by have:=(hb6 b hb).1;omega,(hb6 b hb).2⟩⟩,fun hm=> ?_⟩
     ·match j,hj with
      |0,_=>rfl
      |1,_=>rfl
      |2,_=>rfl
      |3,_=>rfl
      |4,_=>rfl
      |5,hj=>rw[hS] at hj;cases hj
      |6,_=>rfl
      |7,_=>rfl
      |j+8,_=>rfl
     ·obtain⟨m1,m2,-⟩:=hX.new hm
      exact⟨m1,m2.fz hf (by omega),fun _ hb=>Nat.lt_irrefl _ (Nat.lt_of_lt_of_le m2.lt (hb6 _ hb).1)⟩
   |6,ho=>
    injection ho with ho
    subst ho;intro σ S w hS hpre hdc hX;refine Seq.val (aa.len rfl rfl Tryz.underlying69) rfl rfl rfl (Seq.nil ?_);exact ae.aD rfl rfl rfl hpre rfl (fun _ _=>rfl) hX
   |7,ho=>
    injection ho with ho
    subst ho;intro σ S w hS hpre hdc hX;refine Seq.slice (vs:=[.agg #[.int .i64 0, .string {data:= #[]}, .slice none 0 0, .slice none 0 0]]) (s:=4) rfl rfl rfl Tryz.underlying69 (by kernel_rfl) aG (by omega) (by omega) ⟨rfl,trivial⟩ rfl rfl rfl ?_;intro g7 w' n7;refine Seq.nil ?_;have hsz:=hX.fz.size;refine ae.aD (σ:=σ) (σ':=(σ.1,σ.2.1,g7)) rfl rfl rfl hpre rfl (fun j hj=> ?_) ⟨hX.fz.step n7.below,fun h=>(hX.pre h).step hle n7.below,fun h=> ?_,fun _=>⟨Nat.le_trans hsz n7.ge,n7.an,fun h hb=> ?_⟩⟩
    ·match j,hj with
     |0,_=>rfl
     |1,_=>rfl
     |2,_=>rfl
     |3,_=>rfl
     |4,_=>rfl
     |5,_=>rfl
     |6,_=>rfl
     |7,hj=>rw[hS] at hj;cases hj
     |j+8,_=>rfl
    ·obtain⟨x,q,q1,q2,q3,q4⟩:=hX.post h
     exact⟨x,q,q1,q2.step hle n7.below,q3.mono (fun _ h=>h) (fun a ha=>n7.below.cell (q4 _ ha).2),fun b hb=>⟨(q4 b hb).1,Nat.lt_of_lt_of_le (q4 b hb).2 n7.below.size⟩⟩
    ·obtain⟨x,q,q1,q2,q3,q4⟩:=hX.post h
     exact Nat.lt_irrefl _ (Nat.lt_of_lt_of_le (q4 _ hb).2 n7.ge)
   |k+8,ho=>simp at ho
  ·rintro⟨v5,S5,g7⟩ S w3 hS hX
   obtain⟨x,q,hr,pw3,hrep,haway⟩:=hX.post (hS 5 (by decide));obtain⟨e7,k7,hn7⟩:=hX.new (hS 7 (by decide));dsimp only at hrep haway e7 k7;have fz3:=hX.fz;clear hX;have hs3:=fz3.size;have k90:=kt2.fz fz3 (by omega);have aq3:=aq2.fz fz3 hg0;have kp3:Kp w w3:=kp2.fz pw2.an fz3;have e90:h0≤gt:=hgt;have ab:Fz h0 K.g w w3:=(fz2.trans (fz3.less hs2)).less hh;have hh3:h0≤w3.heap.size:=by omega
   have hown:=aq3.fO;have hones:=hrep.aV;rw[hr];refine Seq.gC rfl rfl rfl Tryz.underlying69 (by kernel_rfl) aG rfl (by decide) (b:=72) (by kernel_rfl) hown (Reads.an (size:=4) k7 1 rfl) (by intro z hz;simp at hz;rcases hz with rfl|rfl|rfl|rfl<;>rfl) hh3 (by simp only[maxLen];omega) (by omega) rfl rfl rfl ?_;intro v' w4 hown' happ hv';obtain⟨AV,cV,hvV,-⟩:=hown'.reads;subst hvV;have k90':=k90.grown happ.grown (fun e=>aq3.zK e.symm);have pw4:PW K w4 q d false:=⟨pw3.an.grown happ.grown (fun e=>by have:=hown.aS _ e.symm;omega),pw3.rd.below (happ.below.mono (by omega)),pw3.bJ,pw3.eo⟩;have kp4:=kp3.app hown happ;have bel4:Fz h0 K.g w w4:=ab.trans (Fz.of happ.below);have hs4:=happ.below.size;have hgrow:=happ.grown;clear ab k90 kp3;have ab:=bel4;have k90:=k90';have kp:=kp4;have pwk:=pw4.an;refine Zv (aa.nilCheck rfl rfl) ?_;refine Zf 3 Tryz.underlying71 ?_;refine Zq k90 ?_;intro w1 pw1;replace ab:=ab.put k90 pw1 e90;replace kp:=kp.put k90 pw1 e90;replace k90:=pw1.an;refine aY 0 1 3 9 10 12 (eh ?_);have hb5:∀b,b<w3.heap.size→b≠gt→(Value.slice AT ts.length cT).ownBlock≠some b→w1.heap[b]? =w3.heap[b]? :=fun b h1 h2 h3=>(pw1.grown.block b (by omega) (fun e=>h2 (by injection e))).trans (hgrow.block b h1 (fun e=>h3 e.symm))
   have hvown:∀b,(Value.slice AV (ts.length+1) cV).ownBlock=some b→b≠gt:=fun b e1 e2=>by
    rcases hv' with e|e
    ·exact aq3.zK (by rw[←e,e1,e2])
    ·rw[e] at e1;injection e1 with e1;omega
   have hown5:Own w1 h0 71 4 (.slice AV (ts.length+1) cV) (ts.length+1) (aN tvs++_):=hown'.kB (Nat.le_of_eq pw1.size.symm) fun b e=>pw1.grown.block b ((hown'.aS b e).2) (fun e'=>hvown b e (by injection e'));have hlv:(aN tvs).length=ts.length*4:=hown.row.1;obtain⟨gv,cap,cur,hvv,hgv,hgvl,kv,hfit,hset⟩:=hown5.pL hlv;have hgne:gv≠gt:=hvown gv (by rw[hvv];rfl);obtain⟨rfl,rfl⟩:AV=some ⟨gv,0,none⟩∧cV=cap:=by injection hvv with h1 _ h3;exact⟨h1,h3⟩
   have haddr:(⟨gv,0,none⟩:Addr).add (ts.length*4)=⟨gv,ts.length*4,none⟩:=by unfold Addr.add;split<;>simp_all
   refine Zv (aa.bI rfl rfl rfl Tryz.underlying69 (s:=4) (by kernel_rfl) (j:=ts.length) rfl (by omega)) ?_;rw[haddr];refine Seq.km rfl rfl rfl rfl (m:=4) (by kernel_rfl) hones.1 (jf hones.2) kv (by rw[hones.1];exact hfit) rfl rfl ?_;intro w6 p6;have hown6:=hset w6 v5.cells hones.1 p6;have kp6:Kp w w6:=kp.put kv p6 hgv;have bel6:Fz h0 K.g w w6:=ab.put kv p6 hgv;have k906:=k90.put p6 (fun e=>hgne e.symm);have pw6:PW K w6 q d false:=⟨(pwk.put pw1 (by omega)).put p6 (by omega),(pw4.rd.below (pw1.below (by omega) k90'.lt)).below (p6.below (by omega) hgvl),pw3.bJ,pw3.eo⟩;have hsl:=p6.size;have hsl2:=pw1.size
   have aq6:=aq3.AI hrep (fun b hb=>⟨by have:=(haway b hb).1;omega,(haway b hb).2,by have:=(haway b hb).1;omega,fun e=>by have:=(aq2.fB.aS b e).2;have:=(haway b hb).1;omega,fun e=>by have:=(aq2.fO.aS b e).2;have:=(haway b hb).1;omega⟩) hown6 (by omega)
    (fun b _ h2 h3 h4=>(p6.grown.block b (by omega) (fun e=>by
     injection e with e
     rcases hv' with e'|e'
     ·exact h4 (by rw[←e',e];rfl)
     ·injection e' with e'
      have e':gv=w3.heap.size:=e';omega)).trans (hb5 b h2 h3 h4))
    (hv'.elim .inl fun e=> .inr ⟨_,e,Nat.le_refl _⟩) (by omega)
   refine aY 0 1 3 9 10 12 ?_;refine ae.gu rfl (.inr rfl) ?_;exact⟨bel6,_,rfl,pw6,kp6,_,_,_,_,_,k906,aq6⟩
 ·skip
  refine Cd.jo (σT:=Value × (Nat→Prop) × Nat × Value) 9 (by kernel_rfl) rfl rfl (fun σ=>[.pointer (some ⟨gt,0,none⟩), .pointer (some ⟨gt,0,none⟩), .pointer (some ⟨gt,0,none⟩), .pointer (some ⟨gt,3,none⟩), .slice AT ts.length cT, .pointer (some ⟨K.g,0,none⟩),σ.1, .slice (some ⟨σ.2.2.1,0,none⟩) 1 1,σ.2.2.2]) (fun σ S W=>(S 8=false→XA dr K w2 p d (T p d) (S 6) (S 7) σ.2.1 σ.1 σ.2.2.1 71 σ.1.cells W)∧(S 8=true→∃x q,T p d= .ok x q∧Kp w2 W∧Fz h0 K.g w2 W∧PW K W q d false∧aH W gt 71 #[.int .i64 op, .string (strOf nm), .slice AE es.length cE, .slice AT ts.length cT]∧∃S',dw W h0 gt es (ts++[x]) evs (tvs++[σ.1]) (.slice AE es.length cE) σ.2.2.2 S')) ((undef,fun _=>False,0,undef)) ?_ ?_ ?_
  ·intro w0 hb0 hs0
   exact⟨fun _=>⟨Fz.of hb0,fun _=>pw2.step hle hb0,fun h=>(by cases h),fun h=>(by cases h)⟩,fun h=>(by cases h)⟩
  ·intro k o ho
   match k,ho with
   |0,ho=>
    injection ho with ho
    subst ho;intro σ S w hS hpre hdc hX
    have hb:aH w b0 227 #[.pointer (some ⟨gt,0,none⟩)]:=by
     cases h8:S 8 with
     |false=>exact kb02.Ad pw2.an (hX.1 h8).fz (Nat.le_refl _)
     |true=>obtain⟨x,q,-,hkp,-⟩:=hX.2 h8;exact hkp.an kb02
    refine Seq.val (aa.au (g:=b0) (i:=0) rfl rfl Tryz.underlying227 rfl hb rfl) rfl rfl rfl (Seq.nil ?_);exact ae.aD rfl rfl rfl hpre rfl (fun _ _=>rfl) hX
   |1,ho=>
    injection ho with ho
    subst ho;intro σ S w hS hpre hdc hX
    have hb:aH w b0 227 #[.pointer (some ⟨gt,0,none⟩)]:=by
     cases h8:S 8 with
     |false=>exact kb02.Ad pw2.an (hX.1 h8).fz (Nat.le_refl _)
     |true=>obtain⟨x,q,-,hkp,-⟩:=hX.2 h8;exact hkp.an kb02
    refine Seq.val (aa.au (g:=b0) (i:=0) rfl rfl Tryz.underlying227 rfl hb rfl) rfl rfl rfl (Seq.nil ?_);exact ae.aD rfl rfl rfl hpre rfl (fun _ _=>rfl) hX
   |2,ho=>
    injection ho with ho
    subst ho;intro σ S w hS hpre hdc hX;refine Seq.val (aa.nilCheck rfl rfl) rfl rfl rfl (Seq.nil ?_);exact ae.aD rfl rfl rfl hpre rfl (fun _ _=>rfl) hX
   |3,ho=>
    injection ho with ho
    subst ho;intro σ S w hS hpre hdc hX;refine Seq.val (aa.gx 3 rfl rfl Tryz.underlying71 rfl (by kernel_rfl)) rfl rfl rfl (Seq.nil ?_);exact ae.aD rfl rfl rfl hpre rfl (fun _ _=>rfl) hX
   |4,ho=>
    injection ho with ho
    subst ho;intro σ S w hS hpre hdc hX
    have h8:S 8=false:=by
     cases h8:S 8 with
     |false=>rfl
     |true=>have:=hdc 8 _ rfl h8 4 (ao rfl);rw[hS] at this;cases this
    refine Seq.val (aa.au (g:=gt) (i:=3) rfl rfl Tryz.underlying69 rfl (kt2.fz (hX.1 h8).fz (by omega)) rfl) rfl rfl rfl (Seq.nil ?_);exact ae.aD rfl rfl rfl hpre rfl (fun _ _=>rfl) hX
   |5,ho=>
    injection ho with ho
    subst ho;intro σ S w hS hpre hdc hX
    have hb:aH w b1 189 #[.pointer (some ⟨K.g,0,none⟩)]:=by
     cases h8:S 8 with
     |false=>exact kb12.Ad pw2.an (hX.1 h8).fz (Nat.le_refl _)
     |true=>obtain⟨x,q,-,hkp,-⟩:=hX.2 h8;exact hkp.an kb12
    refine Seq.val (aa.au (g:=b1) (i:=0) rfl rfl Tryz.underlying189 rfl hb rfl) rfl rfl rfl (Seq.nil ?_);exact ae.aD rfl rfl rfl hpre rfl (fun _ _=>rfl) hX
   |6,ho=>
    injection ho with ho
    subst ho;intro σ S w hS hpre hdc hX
    have h8:S 8=false:=by
     cases h8:S 8 with
     |false=>rfl
     |true=>have:=hdc 8 _ rfl h8 6 (ao rfl);rw[hS] at this;cases this
    have h7:S 7=false:=by
     cases h7:S 7 with
     |false=>rfl
     |true=>have:=hdc 7 _ rfl h7 6 (ao rfl);rw[hS] at this;cases this
    have hXa:=hX.1 h8;have hcl:=hcall w (hXa.pre hS) hXa.fz;rcases Rs.dA hne with ⟨q,ov,hr⟩|⟨x,q,hr⟩
    ·rw[hr] at hcl
     refine Seq.cZ (Ze Tryz.func128) rfl hcl ?_;rintro e w6 ⟨hf,rfl,d6,hp6⟩;refine⟨_,rfl,fun a ha=>⟨ha.defers,?_⟩⟩;rw[hr];exact⟨(fz2.trans ((hXa.fz.call hf).less hs2)).less hh,rfl,d6,hp6⟩
    ·rw[hr] at hcl
     refine Zc (Ze Tryz.func128) hcl ?_;rintro e w6 ⟨hf,v6,rfl,hp6,S6,hr6,hb6⟩;refine⟨_,rfl,Seq.nil ?_⟩;have hsz:=hXa.fz.size;refine ae.aD (σ:=σ) (σ':=(v6,S6,σ.2.2.1,σ.2.2.2)) rfl rfl rfl hpre rfl (fun j hj=> ?_) ⟨fun _=>⟨hXa.fz.call hf,(fun h=>by cases h),fun _=>⟨x,q,hr,hp6,hr6,fun b hb=>⟨by have:=(hb6 b hb).1;omega,(hb6 b hb).2⟩⟩,fun hm=> ?_⟩,fun hm=> ?_⟩
     ·match j,hj with
      |0,_=>rfl
      |1,_=>rfl
      |2,_=>rfl
      |3,_=>rfl
      |4,_=>rfl
      |5,_=>rfl
      |6,hj=>rw[hS] at hj;cases hj
      |7,hj=>rw[h7] at hj;cases hj
      |8,_=>rfl
      |j+9,_=>rfl
     ·have hm:S 7=true:=hm
      rw[h7] at hm;cases hm
     ·have hm:S 8=true:=hm
      rw[h8] at hm;cases hm
   |7,ho=>
    injection ho with ho
    subst ho;intro σ S w hS hpre hdc hX
    have h8:S 8=false:=by
     cases h8:S 8 with
     |false=>rfl
     |true=>have:=hdc 8 _ rfl h8 7 (ao rfl);rw[hS] at this;cases this
    have hXa:=hX.1 h8;obtain⟨x,q,q1,q2,q3,q4⟩:=hXa.post (hpre 6 (ao rfl));have hones:=q3.aV;refine Seq.slice (vs:=[σ.1]) (s:=4) rfl rfl rfl Tryz.underlying69 (by kernel_rfl) aG (by omega) (by omega) ⟨hones.1,trivial⟩ rfl rfl rfl ?_;intro g7 w' n7;refine Seq.nil ?_;have hsz:=hXa.fz.size;have hcells:(aN [σ.1]).toArray=σ.1.cells:=by simp[aN]
    have n7b:=n7.an;rw[hcells] at n7b;refine ae.aD (σ:=σ) (σ':=(σ.1,σ.2.1,g7,σ.2.2.2)) rfl rfl rfl hpre rfl (fun j hj=> ?_) ⟨fun _=>⟨hXa.fz.step n7.below,fun h=>(hXa.pre h).step hle n7.below,fun h=> ?_,fun _=>⟨Nat.le_trans hsz n7.ge,n7b,fun h hb=> ?_⟩⟩,fun hm=> ?_⟩
    ·match j,hj with
     |0,_=>rfl
     |1,_=>rfl
     |2,_=>rfl
     |3,_=>rfl
     |4,_=>rfl
     |5,_=>rfl
     |6,_=>rfl
     |7,hj=>rw[hS] at hj;cases hj
     |8,_=>rfl
     |j+9,_=>rfl
    ·exact⟨x,q,q1,q2.step hle n7.below,q3.mono (fun _ h=>h) (fun a ha=>n7.below.cell (q4 _ ha).2),fun b hb=>⟨(q4 b hb).1,Nat.lt_of_lt_of_le (q4 b hb).2 n7.below.size⟩⟩
    ·exact Nat.lt_irrefl _ (Nat.lt_of_lt_of_le (q4 _ hb).2 n7.ge)
    ·have hm:S 8=true:=hm
     rw[h8] at hm;cases hm
   |8,ho=>
    injection ho with ho
    subst ho;intro σ S w hS hpre hdc hX;have hXa:=hX.1 hS;obtain⟨x,q,hr,pw3,hrep,haway⟩:=hXa.post (hpre 6 (ao rfl));obtain⟨e7,k7,hn7⟩:=hXa.new (hpre 7 (ao rfl));have hones:=hrep.aV;have hsz:=hXa.fz.size;have aq3:=aq2.fz hXa.fz hg0;have hown:=aq3.fO;have k90:=kt2.fz hXa.fz (by omega);refine Seq.gC rfl rfl rfl Tryz.underlying69 (by kernel_rfl) aG rfl (by decide) (b:=72) (by kernel_rfl) hown (Reads.an (size:=4) k7 1 hones.1) hones.2 (by omega) (by simp only[maxLen];omega) (by omega) rfl rfl rfl ?_;intro v' w4 hown' happ hv';refine Seq.nil ?_;have hs4:=happ.below.size
    have aq6:=aq3.AI hrep (fun b hb=>⟨by have:=(haway b hb).1;omega,(haway b hb).2,by have:=(haway b hb).1;omega,fun e=>by have:=(aq2.fB.aS b e).2;have:=(haway b hb).1;omega,fun e=>by have:=(aq2.fO.aS b e).2;have:=(haway b hb).1;omega⟩) hown' hs4
     (fun b _ h2 h3 h4=>happ.grown.block b h2 (fun e=>h4 e.symm)) (hv'.elim .inl fun e=> .inr ⟨_,e,Nat.le_refl _⟩) (by omega)
    refine ae.aD (σ:=σ) (σ':=(σ.1,σ.2.1,σ.2.2.1,v')) rfl rfl rfl hpre rfl (fun j hj=> ?_) ⟨(fun h=>by cases h),fun _=>⟨x,q,hr,((Kp.refl w2).fz pw2.an hXa.fz).app hown happ,(hXa.fz.less hh2).trans (Fz.of happ.below),⟨pw3.an.grown happ.grown (fun e=>by have:=hown.aS _ e.symm;omega),pw3.rd.below (happ.below.mono (by omega)),pw3.bJ,pw3.eo⟩,k90.grown happ.grown (fun e=>aq3.zK e.symm),_,aq6⟩⟩
    match j,hj with
    |0,_=>rfl
    |1,_=>rfl
    |2,_=>rfl
    |3,_=>rfl
    |4,_=>rfl
    |5,_=>rfl
    |6,_=>rfl
    |7,_=>rfl
    |8,hj=>rw[hS] at hj;cases hj
    |j+9,_=>rfl
   |k+9,ho=>simp at ho
  ·rintro⟨v6,S6,g7,v8⟩ S w3 hS hX
   obtain⟨x,q,hr,kp3,fz3,pw3,k90,S',aq3⟩:=hX.2 (hS 8 (by decide));clear hX;dsimp only at aq3;have hs3:=fz3.size;have e90:h0≤gt:=hgt;have ab:Fz h0 K.g w w3:=(fz2.less hh).trans fz3;have kp:=kp2.trans kp3;have pwk:=pw3.an;have hlt3:=k90.lt;rw[hr];obtain⟨AX,cX,hvX,-⟩:=aq3.fO.reads;subst hvX;refine Zv (aa.nilCheck rfl rfl) ?_;refine Zf 3 Tryz.underlying71 ?_;refine Zq k90 ?_;intro w1 pw1;replace ab:=ab.put k90 pw1 e90;replace kp:=kp.put k90 pw1 e90;replace aq3:=aq3.put k90 pw1 e90;replace k90:=pw1.an;refine bn 0 1 3 ?_;have pw5:PW K w1 q d false:=⟨pwk.put pw1 (by omega),pw3.rd.below (pw1.below (by omega) hlt3),pw3.bJ,pw3.eo⟩;refine ae.gu rfl (.inr rfl) ?_;exact⟨ab,_,rfl,pw5,kp,_,_,_,_,_,k90,aq3⟩
theorem yY (K:Ctx)(hK:K.Ok)(h0 gt b0 b1 d p:Nat)(op:Int)(nm:List Nat)(es:List Ex)(ts:List Tm)(evs tvs:List Value)(vE vT:Value)(S0:Nat→Prop)(T:Nat→Nat→Rs Ex)(w:World)(pw:PW K w p d false)(hg0:K.g<h0)(hgt:h0≤gt)(hh:h0≤w.heap.size)
  (kt:aH w gt 71 #[.int .i64 op, .string (strOf nm),vE,vT]) (kb0:aH w b0 227 #[.pointer (some ⟨gt,0,none⟩)]) (kb1:aH w b1 189 #[.pointer (some ⟨K.g,0,none⟩)]) (aq:dw w h0 gt es ts evs tvs vE vT S0) (hl:es.length≤10)
  (hc:∀W,PW K W p d false→Fz w.heap.size K.g w W→Calls Tryz.prog 151 #[.pointer (some ⟨K.g,0,none⟩), .int .i64 0] W (PR K W d (T p d) (pb W))) (hne:T p d≠ .out):
  Calls Tryz.prog 211 #[.pointer (some ⟨b0,0,none⟩), .pointer (some ⟨b1,0,none⟩)] w (vJ K h0 w d (T p d) fun x _ W'=>Kp w W'∧∃evs tvs vE vT S,aH W' gt 71 #[.int .i64 op, .string (strOf nm),vE,vT]∧dw W' h0 gt (es++[x]) ts evs tvs vE vT S):=by
 have hle:=hK.le;have hgg:K.g<w.heap.size:=pw.an.lt;have hgtl:gt<w.heap.size:=kt.lt;obtain⟨AE,cE,rfl,-⟩:=aq.fB.reads;obtain⟨AT,cT,rfl,-⟩:=aq.fO.reads;refine Zs 27 Tryz.func211 ?_;refine Cd.seq ?_;refine Cd.jo (σT:=Nat × Bool) 3 (by kernel_rfl) rfl rfl (fun σ=>[.pointer (some ⟨σ.1,0,none⟩),undef,undef]) (fun σ S W=>Below w.heap.size w W∧(S 0=true→w.heap.size≤σ.1∧aH W σ.1 4 #[.bool σ.2])) ((0,false)) ?_ ?_ ?_
 ·intro w0 hb0 hs0
  exact⟨hb0,fun h=>by cases h⟩
 ·intro k o ho
  match k,ho with
  |0,ho=>
   injection ho with ho
   subst ho;intro σ S w hS hpre hdc hX;refine Zl oF ?_;intro g2 w' n2;refine Seq.nil ?_;exact ae.aD (σ:=σ) (σ':=(g2,false)) rfl rfl rfl hpre rfl (fun j hj=>by cases j with|zero=>rw[hS] at hj;cases hj|succ j=>rfl) ⟨hX.1.trans (n2.below.mono hX.1.size),fun _=>⟨Nat.le_trans hX.1.size n2.ge,n2.an⟩⟩
  |1,ho=>
   injection ho with ho
   subst ho;intro σ S w hS hpre hdc hX;have h2:=hX.2 (hpre 0 (ao rfl));refine Zq h2.2 ?_;intro w' pq;refine Seq.nil ?_;exact ae.mh (σ:=σ) (σ':=(σ.1,true)) rfl rfl rfl (fun _ _=>rfl) ⟨pq.jY hX.1 h2.1 h2.2.lt,fun _=>⟨h2.1,pq.an⟩⟩
  |2,ho=>
   injection ho with ho
   subst ho;intro σ S w hS hpre hdc hX;have h2:=hX.2 (hpre 0 (ao rfl));refine Zq h2.2 ?_;intro w' pq;refine Seq.nil ?_;exact ae.mh (σ:=σ) (σ':=(σ.1,false)) rfl rfl rfl (fun _ _=>rfl) ⟨pq.jY hX.1 h2.1 h2.2.lt,fun _=>⟨h2.1,pq.an⟩⟩
  |k+3,ho=>simp at ho
 rintro⟨g2,b2⟩ S w2 hS ⟨bel2,hX⟩;obtain⟨e2,k2⟩:=hX (hS 0 (by decide));dsimp only at e2 k2;have pw2:=pw.step hle bel2;have kt2:=kt.step bel2;have kb02:=kb0.step bel2;have kb12:=kb1.step bel2;have aq2:=aq.step bel2;have hs2:=bel2.size;have fz2:Fz w.heap.size K.g w w2:=Fz.of bel2;have kp2:Kp w w2:=(Kp.refl w).step bel2;have hh2:h0≤w2.heap.size:=by omega
 clear pw kt kb0 kb1 aq hX;have hcall:∀W,PW K W p d false→Fz w2.heap.size K.g w2 W→Calls Tryz.prog 151 #[.pointer (some ⟨K.g,0,none⟩), .int .i64 0] W (PR K W d (T p d) (pb W)):=fun W h1 h2=>hc W h1 (fz2.trans (h2.less hs2));refine ZL Tryz.underlying4 k2 ?_;refine bn 0 1 3 (Zt ?_);refine Cd.cond rfl (fun hcn=> ?_) (fun hcn=> ?_)
 ·skip
  refine Cd.seq ?_;refine Cd.jo (σT:=Value × (Nat→Prop) × Nat) 8 (by kernel_rfl) rfl rfl (fun σ=>[.pointer (some ⟨gt,0,none⟩), .pointer (some ⟨gt,0,none⟩), .pointer (some ⟨gt,2,none⟩), .slice AE es.length cE, .pointer (some ⟨K.g,0,none⟩),σ.1, .int .i64 (es.length:Int), .slice (some ⟨σ.2.2,0,none⟩) 1 1]) (fun σ S W=>XA cw K w2 p d (T p d) (S 5) (S 7) σ.2.1 σ.1 σ.2.2 105 #[.int .i64 0, .int .i64 0, .string {data:= #[]}, .slice none 0 0] W) ((undef,fun _=>False,0)) ?_ ?_ ?_
  ·intro w0 hb0 hs0
   exact⟨Fz.of hb0,fun _=>pw2.step hle hb0,fun h=>(by cases h),fun h=>(by cases h)⟩
  ·intro k o ho
   match k,ho with
   |0,ho=>
    injection ho with ho
    subst ho;intro σ S w hS hpre hdc hX;refine Seq.val (aa.au (g:=b0) (i:=0) rfl rfl Tryz.underlying227 rfl (kb02.Ad pw2.an hX.fz (Nat.le_refl _)) rfl) rfl rfl rfl (Seq.nil ?_);exact ae.aD rfl rfl rfl hpre rfl (fun _ _=>rfl) hX
   |1,ho=>
    injection ho with ho
    subst ho;intro σ S w hS hpre hdc hX;refine Seq.val (aa.nilCheck rfl rfl) rfl rfl rfl (Seq.nil ?_);exact ae.aD rfl rfl rfl hpre rfl (fun _ _=>rfl) hX
   |2,ho=>
    injection ho with ho
    subst ho;intro σ S w hS hpre hdc hX;refine Seq.val (aa.gx 2 rfl rfl Tryz.underlying71 rfl (by kernel_rfl)) rfl rfl rfl (Seq.nil ?_);exact ae.aD rfl rfl rfl hpre rfl (fun _ _=>rfl) hX
   |3,ho=>
    injection ho with ho
    subst ho;intro σ S w hS hpre hdc hX;refine Seq.val (aa.au (g:=gt) (i:=2) rfl rfl Tryz.underlying68 rfl (kt2.fz hX.fz (by omega)) rfl) rfl rfl rfl (Seq.nil ?_);exact ae.aD rfl rfl rfl hpre rfl (fun _ _=>rfl) hX
   |4,ho=>
    injection ho with ho
    subst ho;intro σ S w hS hpre hdc hX;refine Seq.val (aa.au (g:=b1) (i:=0) rfl rfl Tryz.underlying189 rfl (kb12.Ad pw2.an hX.fz (Nat.le_refl _)) rfl) rfl rfl rfl (Seq.nil ?_);exact ae.aD rfl rfl rfl hpre rfl (fun _ _=>rfl) hX
   |5,ho=>
    injection ho with ho
    subst ho;intro σ S w hS hpre hdc hX;have hcl:=hcall w (hX.pre hS) hX.fz;rcases Rs.dA hne with ⟨q,ov,hr⟩|⟨x,q,hr⟩
    ·rw[hr] at hcl
     refine Seq.cZ (Ze Tryz.func151) rfl hcl ?_;rintro e w6 ⟨hf,rfl,d6,hp6⟩;refine⟨_,rfl,fun a ha=>⟨ha.defers,?_⟩⟩;rw[hr];exact⟨(fz2.trans ((hX.fz.call hf).less hs2)).less hh,rfl,d6,hp6⟩
    ·rw[hr] at hcl
     refine Zc (Ze Tryz.func151) hcl ?_;rintro e w6 ⟨hf,v6,rfl,hp6,S6,hr6,hb6⟩;refine⟨_,rfl,Seq.nil ?_⟩;have hsz:=hX.fz.size;refine ae.aD (σ:=σ) (σ':=(v6,S6,σ.2.2)) rfl rfl rfl hpre rfl (fun j hj=> ?_) ⟨hX.fz.call hf,(fun h=>by cases h),fun _=>⟨x,q,hr,hp6,hr6,fun b hb=>⟨by have:=(hb6 b hb).1;omega,(hb6 b hb).2⟩⟩,fun hm=> ?_⟩
     ·match j,hj with
      |0,_=>rfl
      |1,_=>rfl
      |2,_=>rfl
      |3,_=>rfl
      |4,_=>rfl
      |5,hj=>rw[hS] at hj;cases hj
      |6,_=>rfl
      |7,_=>rfl
      |j+8,_=>rfl
     ·obtain⟨m1,m2,-⟩:=hX.new hm
      exact⟨m1,m2.fz hf (by omega),fun _ hb=>Nat.lt_irrefl _ (Nat.lt_of_lt_of_le m2.lt (hb6 _ hb).1)⟩
   |6,ho=>
    injection ho with ho
    subst ho;intro σ S w hS hpre hdc hX;refine Seq.val (aa.len rfl rfl Tryz.underlying68) rfl rfl rfl (Seq.nil ?_);exact ae.aD rfl rfl rfl hpre rfl (fun _ _=>rfl) hX
   |7,ho=>
    injection ho with ho
    subst ho;intro σ S w hS hpre hdc hX;refine Seq.slice (vs:=[.agg #[.int .i64 0, .int .i64 0, .string {data:= #[]}, .slice none 0 0]]) (s:=4) rfl rfl rfl Tryz.underlying68 (by kernel_rfl) az (by omega) (by omega) ⟨rfl,trivial⟩ rfl rfl rfl ?_;intro g7 w' n7;refine Seq.nil ?_;have hsz:=hX.fz.size;refine ae.aD (σ:=σ) (σ':=(σ.1,σ.2.1,g7)) rfl rfl rfl hpre rfl (fun j hj=> ?_) ⟨hX.fz.step n7.below,fun h=>(hX.pre h).step hle n7.below,fun h=> ?_,fun _=>⟨Nat.le_trans hsz n7.ge,n7.an,fun h hb=> ?_⟩⟩
    ·match j,hj with
     |0,_=>rfl
     |1,_=>rfl
     |2,_=>rfl
     |3,_=>rfl
     |4,_=>rfl
     |5,_=>rfl
     |6,_=>rfl
     |7,hj=>rw[hS] at hj;cases hj
     |j+8,_=>rfl
    ·obtain⟨x,q,q1,q2,q3,q4⟩:=hX.post h
     exact⟨x,q,q1,q2.step hle n7.below,q3.mono (fun _ h=>h) (fun a ha=>n7.below.cell (q4 _ ha).2),fun b hb=>⟨(q4 b hb).1,Nat.lt_of_lt_of_le (q4 b hb).2 n7.below.size⟩⟩
    ·obtain⟨x,q,q1,q2,q3,q4⟩:=hX.post h
     exact Nat.lt_irrefl _ (Nat.lt_of_lt_of_le (q4 _ hb).2 n7.ge)
   |k+8,ho=>simp at ho
  ·rintro⟨v5,S5,g7⟩ S w3 hS hX
   obtain⟨x,q,hr,pw3,hrep,haway⟩:=hX.post (hS 5 (by decide));obtain⟨e7,k7,hn7⟩:=hX.new (hS 7 (by decide));dsimp only at hrep haway e7 k7;have fz3:=hX.fz;clear hX;have hs3:=fz3.size;have k90:=kt2.fz fz3 (by omega);have aq3:=aq2.fz fz3 hg0;have kp3:Kp w w3:=kp2.fz pw2.an fz3;have e90:h0≤gt:=hgt;have ab:Fz h0 K.g w w3:=(fz2.trans (fz3.less hs2)).less hh;have hh3:h0≤w3.heap.size:=by omega
   have hown:=aq3.fB;have hones:=hrep.aV;rw[hr];refine Seq.gC rfl rfl rfl Tryz.underlying68 (by kernel_rfl) az rfl (by decide) (b:=56) (by kernel_rfl) hown (Reads.an (size:=4) k7 1 rfl) (by intro z hz;simp at hz;rcases hz with rfl|rfl|rfl|rfl<;>rfl) hh3 (by simp only[maxLen];omega) (by omega) rfl rfl rfl ?_;intro v' w4 hown' happ hv';obtain⟨AV,cV,hvV,-⟩:=hown'.reads;subst hvV;have k90':=k90.grown happ.grown (fun e=>aq3.zL e.symm);have pw4:PW K w4 q d false:=⟨pw3.an.grown happ.grown (fun e=>by have:=hown.aS _ e.symm;omega),pw3.rd.below (happ.below.mono (by omega)),pw3.bJ,pw3.eo⟩;have kp4:=kp3.app hown happ;have bel4:Fz h0 K.g w w4:=ab.trans (Fz.of happ.below);have hs4:=happ.below.size;have hgrow:=happ.grown;clear ab k90 kp3;have ab:=bel4;have k90:=k90';have kp:=kp4;have pwk:=pw4.an;refine Zv (aa.nilCheck rfl rfl) ?_;refine Zf 2 Tryz.underlying71 ?_;refine Zq k90 ?_;intro w1 pw1;replace ab:=ab.put k90 pw1 e90;replace kp:=kp.put k90 pw1 e90;replace k90:=pw1.an;refine aY 0 1 3 9 10 12 (eh ?_);have hb5:∀b,b<w3.heap.size→b≠gt→(Value.slice AE es.length cE).ownBlock≠some b→w1.heap[b]? =w3.heap[b]? :=fun b h1 h2 h3=>(pw1.grown.block b (by omega) (fun e=>h2 (by injection e))).trans (hgrow.block b h1 (fun e=>h3 e.symm))
   have hvown:∀b,(Value.slice AV (es.length+1) cV).ownBlock=some b→b≠gt:=fun b e1 e2=>by
    rcases hv' with e|e
    ·exact aq3.zL (by rw[←e,e1,e2])
    ·rw[e] at e1;injection e1 with e1;omega
   have hown5:Own w1 h0 105 4 (.slice AV (es.length+1) cV) (es.length+1) (aN evs++_):=hown'.kB (Nat.le_of_eq pw1.size.symm) fun b e=>pw1.grown.block b ((hown'.aS b e).2) (fun e'=>hvown b e (by injection e'));have hlv:(aN evs).length=es.length*4:=hown.row.1;obtain⟨gv,cap,cur,hvv,hgv,hgvl,kv,hfit,hset⟩:=hown5.pL hlv;have hgne:gv≠gt:=hvown gv (by rw[hvv];rfl);obtain⟨rfl,rfl⟩:AV=some ⟨gv,0,none⟩∧cV=cap:=by injection hvv with h1 _ h3;exact⟨h1,h3⟩
   have haddr:(⟨gv,0,none⟩:Addr).add (es.length*4)=⟨gv,es.length*4,none⟩:=by unfold Addr.add;split<;>simp_all
   refine Zv (aa.bI rfl rfl rfl Tryz.underlying68 (s:=4) (by kernel_rfl) (j:=es.length) rfl (by omega)) ?_;rw[haddr];refine Seq.km rfl rfl rfl rfl (m:=4) (by kernel_rfl) hones.1 (jf hones.2) kv (by rw[hones.1];exact hfit) rfl rfl ?_;intro w6 p6;have hown6:=hset w6 v5.cells hones.1 p6;have kp6:Kp w w6:=kp.put kv p6 hgv;have bel6:Fz h0 K.g w w6:=ab.put kv p6 hgv;have k906:=k90.put p6 (fun e=>hgne e.symm);have pw6:PW K w6 q d false:=⟨(pwk.put pw1 (by omega)).put p6 (by omega),(pw4.rd.below (pw1.below (by omega) k90'.lt)).below (p6.below (by omega) hgvl),pw3.bJ,pw3.eo⟩;have hsl:=p6.size;have hsl2:=pw1.size
   have aq6:=aq3.Cc hrep (fun b hb=>⟨by have:=(haway b hb).1;omega,(haway b hb).2,by have:=(haway b hb).1;omega,fun e=>by have:=(aq2.fB.aS b e).2;have:=(haway b hb).1;omega,fun e=>by have:=(aq2.fO.aS b e).2;have:=(haway b hb).1;omega⟩) hown6 (by omega)
    (fun b _ h2 h3 h4=>(p6.grown.block b (by omega) (fun e=>by
     injection e with e
     rcases hv' with e'|e'
     ·exact h4 (by rw[←e',e];rfl)
     ·injection e' with e'
      have e':gv=w3.heap.size:=e';omega)).trans (hb5 b h2 h3 h4))
    (hv'.elim .inl fun e=> .inr ⟨_,e,Nat.le_refl _⟩) (by omega)
   refine aY 0 1 3 9 10 12 ?_;refine ae.gu rfl (.inr rfl) ?_;exact⟨bel6,_,rfl,pw6,kp6,_,_,_,_,_,k906,aq6⟩
 ·skip
  refine Cd.jo (σT:=Value × (Nat→Prop) × Nat × Value) 9 (by kernel_rfl) rfl rfl (fun σ=>[.pointer (some ⟨gt,0,none⟩), .pointer (some ⟨gt,0,none⟩), .pointer (some ⟨gt,0,none⟩), .pointer (some ⟨gt,2,none⟩), .slice AE es.length cE, .pointer (some ⟨K.g,0,none⟩),σ.1, .slice (some ⟨σ.2.2.1,0,none⟩) 1 1,σ.2.2.2]) (fun σ S W=>(S 8=false→XA cw K w2 p d (T p d) (S 6) (S 7) σ.2.1 σ.1 σ.2.2.1 105 σ.1.cells W)∧(S 8=true→∃x q,T p d= .ok x q∧Kp w2 W∧Fz h0 K.g w2 W∧PW K W q d false∧aH W gt 71 #[.int .i64 op, .string (strOf nm), .slice AE es.length cE, .slice AT ts.length cT]∧∃S',dw W h0 gt (es++[x]) ts (evs++[σ.1]) tvs σ.2.2.2 (.slice AT ts.length cT) S')) ((undef,fun _=>False,0,undef)) ?_ ?_ ?_
  ·intro w0 hb0 hs0
   exact⟨fun _=>⟨Fz.of hb0,fun _=>pw2.step hle hb0,fun h=>(by cases h),fun h=>(by cases h)⟩,fun h=>(by cases h)⟩
  ·intro k o ho
   match k,ho with
   |0,ho=>
    injection ho with ho
    subst ho;intro σ S w hS hpre hdc hX
    have hb:aH w b0 227 #[.pointer (some ⟨gt,0,none⟩)]:=by
     cases h8:S 8 with
     |false=>exact kb02.Ad pw2.an (hX.1 h8).fz (Nat.le_refl _)
     |true=>obtain⟨x,q,-,hkp,-⟩:=hX.2 h8;exact hkp.an kb02
    refine Seq.val (aa.au (g:=b0) (i:=0) rfl rfl Tryz.underlying227 rfl hb rfl) rfl rfl rfl (Seq.nil ?_);exact ae.aD rfl rfl rfl hpre rfl (fun _ _=>rfl) hX
   |1,ho=>
    injection ho with ho
    subst ho;intro σ S w hS hpre hdc hX
    have hb:aH w b0 227 #[.pointer (some ⟨gt,0,none⟩)]:=by
     cases h8:S 8 with
     |false=>exact kb02.Ad pw2.an (hX.1 h8).fz (Nat.le_refl _)
     |true=>obtain⟨x,q,-,hkp,-⟩:=hX.2 h8;exact hkp.an kb02
    refine Seq.val (aa.au (g:=b0) (i:=0) rfl rfl Tryz.underlying227 rfl hb rfl) rfl rfl rfl (Seq.nil ?_);exact ae.aD rfl rfl rfl hpre rfl (fun _ _=>rfl) hX
   |2,ho=>
    injection ho with ho
    subst ho;intro σ S w hS hpre hdc hX;refine Seq.val (aa.nilCheck rfl rfl) rfl rfl rfl (Seq.nil ?_);exact ae.aD rfl rfl rfl hpre rfl (fun _ _=>rfl) hX
   |3,ho=>
    injection ho with ho
    subst ho;intro σ S w hS hpre hdc hX;refine Seq.val (aa.gx 2 rfl rfl Tryz.underlying71 rfl (by kernel_rfl)) rfl rfl rfl (Seq.nil ?_);exact ae.aD rfl rfl rfl hpre rfl (fun _ _=>rfl) hX
   |4,ho=>
    injection ho with ho
    subst ho;intro σ S w hS hpre hdc hX
    have h8:S 8=false:=by
     cases h8:S 8 with
     |false=>rfl
     |true=>have:=hdc 8 _ rfl h8 4 (ao rfl);rw[hS] at this;cases this
    refine Seq.val (aa.au (g:=gt) (i:=2) rfl rfl Tryz.underlying68 rfl (kt2.fz (hX.1 h8).fz (by omega)) rfl) rfl rfl rfl (Seq.nil ?_);exact ae.aD rfl rfl rfl hpre rfl (fun _ _=>rfl) hX
   |5,ho=>
    injection ho with ho
    subst ho;intro σ S w hS hpre hdc hX
    have hb:aH w b1 189 #[.pointer (some ⟨K.g,0,none⟩)]:=by
     cases h8:S 8 with
     |false=>exact kb12.Ad pw2.an (hX.1 h8).fz (Nat.le_refl _)
     |true=>obtain⟨x,q,-,hkp,-⟩:=hX.2 h8;exact hkp.an kb12
    refine Seq.val (aa.au (g:=b1) (i:=0) rfl rfl Tryz.underlying189 rfl hb rfl) rfl rfl rfl (Seq.nil ?_);exact ae.aD rfl rfl rfl hpre rfl (fun _ _=>rfl) hX
   |6,ho=>
    injection ho with ho
    subst ho;intro σ S w hS hpre hdc hX
    have h8:S 8=false:=by
     cases h8:S 8 with
     |false=>rfl
     |true=>have:=hdc 8 _ rfl h8 6 (ao rfl);rw[hS] at this;cases this
    have h7:S 7=false:=by
     cases h7:S 7 with
     |false=>rfl
     |true=>have:=hdc 7 _ rfl h7 6 (ao rfl);rw[hS] at this;cases this
    have hXa:=hX.1 h8;have hcl:=hcall w (hXa.pre hS) hXa.fz;rcases Rs.dA hne with ⟨q,ov,hr⟩|⟨x,q,hr⟩
    ·rw[hr] at hcl
     refine Seq.cZ (Ze Tryz.func151) rfl hcl ?_;rintro e w6 ⟨hf,rfl,d6,hp6⟩;refine⟨_,rfl,fun a ha=>⟨ha.defers,?_⟩⟩;rw[hr];exact⟨(fz2.trans ((hXa.fz.call hf).less hs2)).less hh,rfl,d6,hp6⟩
    ·rw[hr] at hcl
     refine Zc (Ze Tryz.func151) hcl ?_;rintro e w6 ⟨hf,v6,rfl,hp6,S6,hr6,hb6⟩;refine⟨_,rfl,Seq.nil ?_⟩;have hsz:=hXa.fz.size;refine ae.aD (σ:=σ) (σ':=(v6,S6,σ.2.2.1,σ.2.2.2)) rfl rfl rfl hpre rfl (fun j hj=> ?_) ⟨fun _=>⟨hXa.fz.call hf,(fun h=>by cases h),fun _=>⟨x,q,hr,hp6,hr6,fun b hb=>⟨by have:=(hb6 b hb).1;omega,(hb6 b hb).2⟩⟩,fun hm=> ?_⟩,fun hm=> ?_⟩
     ·match j,hj with
      |0,_=>rfl
      |1,_=>rfl
      |2,_=>rfl
      |3,_=>rfl
      |4,_=>rfl
      |5,_=>rfl
      |6,hj=>rw[hS] at hj;cases hj
      |7,hj=>rw[h7] at hj;cases hj
      |8,_=>rfl
      |j+9,_=>rfl
     ·have hm:S 7=true:=hm
      rw[h7] at hm;cases hm
     ·have hm:S 8=true:=hm
      rw[h8] at hm;cases hm
   |7,ho=>
    injection ho with ho
    subst ho;intro σ S w hS hpre hdc hX
    have h8:S 8=false:=by
     cases h8:S 8 with
     |false=>rfl
     |true=>have:=hdc 8 _ rfl h8 7 (ao rfl);rw[hS] at this;cases this
    have hXa:=hX.1 h8;obtain⟨x,q,q1,q2,q3,q4⟩:=hXa.post (hpre 6 (ao rfl));have hones:=q3.aV;refine Seq.slice (vs:=[σ.1]) (s:=4) rfl rfl rfl Tryz.underlying68 (by kernel_rfl) az (by omega) (by omega) ⟨hones.1,trivial⟩ rfl rfl rfl ?_;intro g7 w' n7;refine Seq.nil ?_;have hsz:=hXa.fz.size;have hcells:(aN [σ.1]).toArray=σ.1.cells:=by simp[aN]
    have n7b:=n7.an;rw[hcells] at n7b;refine ae.aD (σ:=σ) (σ':=(σ.1,σ.2.1,g7,σ.2.2.2)) rfl rfl rfl hpre rfl (fun j hj=> ?_) ⟨fun _=>⟨hXa.fz.step n7.below,fun h=>(hXa.pre h).step hle n7.below,fun h=> ?_,fun _=>⟨Nat.le_trans hsz n7.ge,n7b,fun h hb=> ?_⟩⟩,fun hm=> ?_⟩
    ·match j,hj with
     |0,_=>rfl
     |1,_=>rfl
     |2,_=>rfl
     |3,_=>rfl
     |4,_=>rfl
     |5,_=>rfl
     |6,_=>rfl
     |7,hj=>rw[hS] at hj;cases hj
     |8,_=>rfl
     |j+9,_=>rfl
    ·exact⟨x,q,q1,q2.step hle n7.below,q3.mono (fun _ h=>h) (fun a ha=>n7.below.cell (q4 _ ha).2),fun b hb=>⟨(q4 b hb).1,Nat.lt_of_lt_of_le (q4 b hb).2 n7.below.size⟩⟩
    ·exact Nat.lt_irrefl _ (Nat.lt_of_lt_of_le (q4 _ hb).2 n7.ge)
    ·have hm:S 8=true:=hm
     rw[h8] at hm;cases hm
   |8,ho=>
    injection ho with ho
    subst ho;intro σ S w hS hpre hdc hX;have hXa:=hX.1 hS;obtain⟨x,q,hr,pw3,hrep,haway⟩:=hXa.post (hpre 6 (ao rfl));obtain⟨e7,k7,hn7⟩:=hXa.new (hpre 7 (ao rfl));have hones:=hrep.aV;have hsz:=hXa.fz.size;have aq3:=aq2.fz hXa.fz hg0;have hown:=aq3.fB;have k90:=kt2.fz hXa.fz (by omega);refine Seq.gC rfl rfl rfl Tryz.underlying68 (by kernel_rfl) az rfl (by decide) (b:=56) (by kernel_rfl) hown (Reads.an (size:=4) k7 1 hones.1) hones.2 (by omega) (by simp only[maxLen];omega) (by omega) rfl rfl rfl ?_;intro v' w4 hown' happ hv';refine Seq.nil ?_;have hs4:=happ.below.size
    have aq6:=aq3.Cc hrep (fun b hb=>⟨by have:=(haway b hb).1;omega,(haway b hb).2,by have:=(haway b hb).1;omega,fun e=>by have:=(aq2.fB.aS b e).2;have:=(haway b hb).1;omega,fun e=>by have:=(aq2.fO.aS b e).2;have:=(haway b hb).1;omega⟩) hown' hs4
     (fun b _ h2 h3 h4=>happ.grown.block b h2 (fun e=>h4 e.symm)) (hv'.elim .inl fun e=> .inr ⟨_,e,Nat.le_refl _⟩) (by omega)
    refine ae.aD (σ:=σ) (σ':=(σ.1,σ.2.1,σ.2.2.1,v')) rfl rfl rfl hpre rfl (fun j hj=> ?_) ⟨(fun h=>by cases h),fun _=>⟨x,q,hr,((Kp.refl w2).fz pw2.an hXa.fz).app hown happ,(hXa.fz.less hh2).trans (Fz.of happ.below),⟨pw3.an.grown happ.grown (fun e=>by have:=hown.aS _ e.symm;omega),pw3.rd.below (happ.below.mono (by omega)),pw3.bJ,pw3.eo⟩,k90.grown happ.grown (fun e=>aq3.zL e.symm),_,aq6⟩⟩
    match j,hj with
    |0,_=>rfl
    |1,_=>rfl
    |2,_=>rfl
    |3,_=>rfl
    |4,_=>rfl
    |5,_=>rfl
    |6,_=>rfl
    |7,_=>rfl
    |8,hj=>rw[hS] at hj;cases hj
    |j+9,_=>rfl
   |k+9,ho=>simp at ho
  ·rintro⟨v6,S6,g7,v8⟩ S w3 hS hX
   obtain⟨x,q,hr,kp3,fz3,pw3,k90,S',aq3⟩:=hX.2 (hS 8 (by decide));clear hX;dsimp only at aq3;have hs3:=fz3.size;have e90:h0≤gt:=hgt;have ab:Fz h0 K.g w w3:=(fz2.less hh).trans fz3;have kp:=kp2.trans kp3;have pwk:=pw3.an;have hlt3:=k90.lt;rw[hr];obtain⟨AX,cX,hvX,-⟩:=aq3.fB.reads;subst hvX;refine Zv (aa.nilCheck rfl rfl) ?_;refine Zf 2 Tryz.underlying71 ?_;refine Zq k90 ?_;intro w1 pw1;replace ab:=ab.put k90 pw1 e90;replace kp:=kp.put k90 pw1 e90;replace aq3:=aq3.put k90 pw1 e90;replace k90:=pw1.an;refine bn 0 1 3 ?_;have pw5:PW K w1 q d false:=⟨pwk.put pw1 (by omega),pw3.rd.below (pw1.below (by omega) hlt3),pw3.bJ,pw3.eo⟩;refine ae.gu rfl (.inr rfl) ?_;exact⟨ab,_,rfl,pw5,kp,_,_,_,_,_,k90,aq3⟩
structure XB (K:Ctx)(h0 gt d q:Nat)(op z:Int)(nm:List Nat)(m:Nat)(base:List Value)(vE:Value)(gv cap:Nat)(v:Value)(set stored:Bool)(w2 W3 w:World):Prop where
 own:Own w h0 105 4 (.slice (some ⟨gv,0,none⟩) (m+1) cap) (m+1) (base++(bif set then v.cells.toList else [.int .i64 0, .int .i64 0, .string {data:= #[]}, .slice none 0 0]))
 box:aH w gt 105 #[.int .i64 op, .int .i64 z, .string (strOf nm),bif stored then .slice (some ⟨gv,0,none⟩) (m+1) cap else vE]
 pw:PW K w q d false
 kp:Kp w2 w
 fz:Fz h0 K.g w2 w
 hs:W3.heap.size≤w.heap.size
 hb:∀b,b<W3.heap.size→b≠gt→vE.ownBlock≠some b→w.heap[b]? =W3.heap[b]?
 hv:some gv=vE.ownBlock∨gv=W3.heap.size
 ne:gv≠gt
theorem vU (K:Ctx)(hK:K.Ok)(h0 gt b1 d p:Nat)(op z:Int)(nm:List Nat)(es:List Ex)(evs:List Value)(vE:Value)(S0:Nat→Prop)(T:Nat→Nat→Rs Ex)(wa:World)(pw:PW K wa p d false)(hg0:K.g<h0)(hgt:h0≤gt)(hh:h0≤wa.heap.size)
  (kt:aH wa gt 105 #[.int .i64 op, .int .i64 z, .string (strOf nm),vE]) (kb1:aH wa b1 189 #[.pointer (some ⟨K.g,0,none⟩)]) (aq:dw wa h0 gt es [] evs [] vE (.slice none 0 0) S0) (hl:es.length≤10)
  (hc:∀W,PW K W p d false→Fz wa.heap.size K.g wa W→Calls Tryz.prog 151 #[.pointer (some ⟨K.g,0,none⟩), .int .i64 0] W (PR K W d (T p d) (pb W))) (hne:T p d≠ .out):
  Calls Tryz.prog 242 #[.pointer (some ⟨gt,0,none⟩), .pointer (some ⟨b1,0,none⟩)] wa (vJ K h0 wa d (T p d) fun x _ W'=>Kp wa W'∧∃evs vE S,aH W' gt 105 #[.int .i64 op, .int .i64 z, .string (strOf nm),vE]∧dw W' h0 gt (es++[x]) [] evs [] vE (.slice none 0 0) S):=by
 have hle:=hK.le;have hgg:K.g<wa.heap.size:=pw.an.lt;have hgtl:gt<wa.heap.size:=kt.lt;obtain⟨AE,cE,rfl,-⟩:=aq.fB.reads;refine Zs 11 Tryz.func242 ?_;refine Cd.jo (σT:=Value × (Nat→Prop) × Nat × Nat × Nat × World) 11 (by kernel_rfl) rfl rfl (fun σ=>[.pointer (some ⟨gt,3,none⟩), .slice AE es.length cE, .pointer (some ⟨K.g,0,none⟩),σ.1, .int .i64 (es.length:Int), .slice (some ⟨σ.2.2.1,0,none⟩) 1 1, .slice (some ⟨σ.2.2.2.1,0,none⟩) (es.length+1) σ.2.2.2.2.1, .pointer (some ((⟨σ.2.2.2.1,0,none⟩:Addr).add (es.length*4))),undef, .pointer (some ⟨gt,3,none⟩),undef]) (fun σ S W=>(S 6=false→XA cw K wa p d (T p d) (S 3) (S 5) σ.2.1 σ.1 σ.2.2.1 105 #[.int .i64 0, .int .i64 0, .string {data:= #[]}, .slice none 0 0] W)∧(S 6=true→∃x q,T p d= .ok x q∧XA cw K wa p d (T p d) true true σ.2.1 σ.1 σ.2.2.1 105 #[.int .i64 0, .int .i64 0, .string {data:= #[]}, .slice none 0 0] σ.2.2.2.2.2∧XB K h0 gt d q op z nm es.length (aN evs) (.slice AE es.length cE) σ.2.2.2.1 σ.2.2.2.2.1 σ.1 (S 8) (S 10) wa σ.2.2.2.2.2 W)) ((undef,fun _=>False,0,0,0,wa)) ?_ ?_ ?_
 ·intro w0 hb0 hs0
  exact⟨fun _=>⟨Fz.of hb0,fun _=>pw.step hle hb0,fun h=>(by cases h),fun h=>(by cases h)⟩,fun h=>(by cases h)⟩
 ·intro k o ho
  match k,ho with
  |0,ho=>
   injection ho with ho
   subst ho;intro σ S w hS hpre hdc hX;refine Seq.val (aa.gx 3 rfl rfl Tryz.underlying105 rfl (by kernel_rfl)) rfl rfl rfl (Seq.nil ?_);exact ae.aD rfl rfl rfl hpre rfl (fun _ _=>rfl) hX
  |1,ho=>
   injection ho with ho
   subst ho;intro σ S w hS hpre hdc hX
   have h6:S 6=false:=by
    cases h6:S 6 with
    |false=>rfl
    |true=>have:=hdc 6 _ rfl h6 1 (ao rfl);rw[hS] at this;cases this
   refine Seq.val (aa.au (g:=gt) (i:=3) rfl rfl Tryz.underlying68 rfl (kt.fz (hX.1 h6).fz (by omega)) rfl) rfl rfl rfl (Seq.nil ?_);exact ae.aD rfl rfl rfl hpre rfl (fun _ _=>rfl) hX
  |2,ho=>
   injection ho with ho
   subst ho;intro σ S w hS hpre hdc hX
   have hb:aH w b1 189 #[.pointer (some ⟨K.g,0,none⟩)]:=by
    cases h6:S 6 with
    |false=>exact kb1.Ad pw.an (hX.1 h6).fz (Nat.le_refl _)
    |true=>obtain⟨x,q,-,-,hB⟩:=hX.2 h6;exact hB.kp.an kb1
   refine Seq.val (aa.au (g:=b1) (i:=0) rfl rfl Tryz.underlying189 rfl hb rfl) rfl rfl rfl (Seq.nil ?_);exact ae.aD rfl rfl rfl hpre rfl (fun _ _=>rfl) hX
  |3,ho=>
   injection ho with ho
   subst ho;intro σ S w hS hpre hdc hX
   have h6:S 6=false:=by
    cases h6:S 6 with
    |false=>rfl
    |true=>have:=hdc 6 _ rfl h6 3 (ao rfl);rw[hS] at this;cases this
   have hXa:=hX.1 h6;have hcl:=hc w (hXa.pre hS) hXa.fz;rcases Rs.dA hne with ⟨q,ov,hr⟩|⟨x,q,hr⟩
   ·rw[hr] at hcl
    refine Seq.cZ (Ze Tryz.func151) rfl hcl ?_;rintro e w6 ⟨hf,rfl,d6,hp6⟩;refine⟨_,rfl,fun a ha=>⟨ha.defers,?_⟩⟩;rw[hr];exact⟨(hXa.fz.call hf).less hh,rfl,d6,hp6⟩
   ·rw[hr] at hcl
    refine Zc (Ze Tryz.func151) hcl ?_;rintro e w6 ⟨hf,v6,rfl,hp6,S6,hr6,hb6⟩;refine⟨_,rfl,Seq.nil ?_⟩;have hsz:=hXa.fz.size;refine ae.aD (σ:=σ) (σ':=(v6,S6,σ.2.2)) rfl rfl rfl hpre rfl (fun j hj=> ?_) ⟨fun _=>⟨hXa.fz.call hf,(fun h=>by cases h),fun _=>⟨x,q,hr,hp6,hr6,fun b hb=>⟨by have:=(hb6 b hb).1;omega,(hb6 b hb).2⟩⟩,fun hm=> ?_⟩,fun hm=> ?_⟩
    ·match j,hj with
     |0,_=>rfl
     |1,_=>rfl
     |2,_=>rfl
     |3,hj=>rw[hS] at hj;cases hj
     |4,_=>rfl
     |5,_=>rfl
     |6,_=>rfl
     |7,_=>rfl
     |8,_=>rfl
     |9,_=>rfl
     |10,_=>rfl
     |j+11,_=>rfl
    ·obtain⟨m1,m2,-⟩:=hXa.new hm
     exact⟨m1,m2.fz hf (by omega),fun _ hb=>Nat.lt_irrefl _ (Nat.lt_of_lt_of_le m2.lt (hb6 _ hb).1)⟩
    ·have hm:S 6=true:=hm
     rw[h6] at hm;cases hm
  |4,ho=>
   injection ho with ho
   subst ho;intro σ S w hS hpre hdc hX;refine Seq.val (aa.len rfl rfl Tryz.underlying68) rfl rfl rfl (Seq.nil ?_);exact ae.aD rfl rfl rfl hpre rfl (fun _ _=>rfl) hX
  |5,ho=>
   injection ho with ho
   subst ho;intro σ S w hS hpre hdc hX
   have h6:S 6=false:=by
    cases h6:S 6 with
    |false=>rfl
    |true=>have:=hdc 6 _ rfl h6 5 (ao rfl);rw[hS] at this;cases this
   have hXa:=hX.1 h6;refine Seq.slice (vs:=[.agg #[.int .i64 0, .int .i64 0, .string {data:= #[]}, .slice none 0 0]]) (s:=4) rfl rfl rfl Tryz.underlying68 (by kernel_rfl) az (by omega) (by omega) ⟨rfl,trivial⟩ rfl rfl rfl ?_;intro g7 wa' n7;refine Seq.nil ?_;have hsz:=hXa.fz.size;refine ae.aD (σ:=σ) (σ':=(σ.1,σ.2.1,g7,σ.2.2.2)) rfl rfl rfl hpre rfl (fun j hj=> ?_) ⟨fun _=>⟨hXa.fz.step n7.below,fun h=>(hXa.pre h).step hle n7.below,fun h=> ?_,fun _=>⟨Nat.le_trans hsz n7.ge,n7.an,fun h hb=> ?_⟩⟩,fun hm=> ?_⟩
   ·match j,hj with
    |0,_=>rfl
    |1,_=>rfl
    |2,_=>rfl
    |3,_=>rfl
    |4,_=>rfl
    |5,hj=>rw[hS] at hj;cases hj
    |6,_=>rfl
    |7,_=>rfl
    |8,_=>rfl
    |9,_=>rfl
    |10,_=>rfl
    |j+11,_=>rfl
   ·obtain⟨x,q,q1,q2,q3,q4⟩:=hXa.post h
    exact⟨x,q,q1,q2.step hle n7.below,q3.mono (fun _ h=>h) (fun a ha=>n7.below.cell (q4 _ ha).2),fun b hb=>⟨(q4 b hb).1,Nat.lt_of_lt_of_le (q4 b hb).2 n7.below.size⟩⟩
   ·obtain⟨x,q,q1,q2,q3,q4⟩:=hXa.post h
    exact Nat.lt_irrefl _ (Nat.lt_of_lt_of_le (q4 _ hb).2 n7.ge)
   ·have hm:S 6=true:=hm
    rw[h6] at hm;cases hm
  |6,ho=>
   injection ho with ho
   subst ho;intro σ S w hS hpre hdc hX;have hXa0:=hX.1 hS;have d3:S 3=true:=hpre 3 (ao rfl);have d5:S 5=true:=hpre 5 (ao rfl);have hXa:XA cw K wa p d (T p d) true true σ.2.1 σ.1 σ.2.2.1 105 #[.int .i64 0, .int .i64 0, .string {data:= #[]}, .slice none 0 0] w:=by rw[d3,d5] at hXa0;exact hXa0
   obtain⟨x,q,hr,pw3,hrep,haway⟩:=hXa.post rfl;obtain⟨e7,k7,hn7⟩:=hXa.new rfl;have hsz:=hXa.fz.size;have aq3:=aq.fz hXa.fz hg0;have hown:=aq3.fB;have k90:=kt.fz hXa.fz (by omega);refine Seq.gC rfl rfl rfl Tryz.underlying68 (by kernel_rfl) az rfl (by decide) (b:=56) (by kernel_rfl) hown (Reads.an (size:=4) k7 1 rfl) (by intro z hz;simp at hz;rcases hz with rfl|rfl|rfl|rfl<;>rfl) (by omega) (by simp only[maxLen];omega) (by omega) rfl rfl rfl ?_;intro v' w4 hown' happ hv';refine Seq.nil ?_;have hs4:=happ.below.size;have hlv:(aN evs).length=es.length*4:=hown.row.1;obtain⟨gv,cap,cur,rfl,-⟩:=Own.pL (n:=es.length) (xs:=aN evs) hown' hlv
   have hd8:S 8=false:=by
    cases h:S 8 with
    |false=>rfl
    |true=>have:=hdc 8 _ rfl h 6 (ao rfl);rw[hS] at this;cases this
   have hd10:S 10=false:=by
    cases h:S 10 with
    |false=>rfl
    |true=>have:=hdc 10 _ rfl h 6 (ao rfl);rw[hS] at this;cases this
   have hd7:S 7=false:=by
    cases h:S 7 with
    |false=>rfl
    |true=>have:=hdc 7 _ rfl h 6 (ao rfl);rw[hS] at this;cases this
   have hgvne:gv≠gt:=fun e=>by
    subst e;rcases hv' with e|e
    ·exact aq3.zL (by rw[←e];rfl)
    ·injection e with e
     have e:gv=w.heap.size:=e;have:=k90.lt;omega
   refine ae.aD (σ:=σ) (σ':=(σ.1,σ.2.1,σ.2.2.1,gv,cap,w)) rfl rfl rfl hpre rfl (fun j hj=> ?_) ⟨(fun h=>by cases h),fun _=>⟨x,q,hr,hXa,?_⟩⟩
   ·match j,hj with
    |0,_=>rfl
    |1,_=>rfl
    |2,_=>rfl
    |3,_=>rfl
    |4,_=>rfl
    |5,_=>rfl
    |6,hj=>rw[hS] at hj;cases hj
    |7,hj=>rw[hd7] at hj;cases hj
    |8,_=>rfl
    |9,_=>rfl
    |10,_=>rfl
    |j+11,_=>rfl
   ·have e8:fR S 6 8=false:=hd8
    have e10:fR S 6 10=false:=hd10;rw[e8,e10];exact⟨hown',k90.grown happ.grown (fun e=>aq3.zL e.symm),⟨pw3.an.grown happ.grown (fun e=>by have:=hown.aS _ e.symm;omega),pw3.rd.below (happ.below.mono (by omega)),pw3.bJ,pw3.eo⟩,((Kp.refl wa).fz pw.an hXa.fz).app hown happ,(hXa.fz.less hh).trans (Fz.of happ.below),hs4,fun b h1 _ h3=>happ.grown.block b h1 (fun e=>h3 e.symm),hv'.elim (fun e=> .inl e) (fun e=> .inr (by injection e)),hgvne⟩
  |7,ho=>
   injection ho with ho
   subst ho;intro σ S w hS hpre hdc hX;refine Seq.val (aa.bI rfl rfl rfl Tryz.underlying68 (s:=4) (by kernel_rfl) (j:=es.length) rfl (by omega)) rfl rfl rfl (Seq.nil ?_);exact ae.aD rfl rfl rfl hpre rfl (fun _ _=>rfl) hX
  |8,ho=>
   injection ho with ho
   subst ho;intro σ S w hS hpre hdc hX;obtain⟨x,q,hr,hXa,hB⟩:=hX.2 (hpre 6 (ao rfl));obtain⟨x',q',hr',hp',hrep,haway'⟩:=hXa.post rfl;have hones:=hrep.aV
   have hB8:Own w h0 105 4 (.slice (some ⟨σ.2.2.2.1,0,none⟩) (es.length+1) σ.2.2.2.2.1) (es.length+1) (aN evs++[.int .i64 0, .int .i64 0, .string {data:= #[]}, .slice none 0 0]):=by
    have:=hB.own;rw[hS] at this;exact this
   have hlv:(aN evs).length=es.length*4:=aq.fB.row.1;obtain⟨gv,cap,cur,hvv,hgv,hgvl,kv,hfit,hset⟩:=hB8.pL hlv;have hgv2:σ.2.2.2.1=gv:=by injection hvv with h1;injection h1 with h1;injection h1
   rw[←hgv2] at hgv hgvl kv hset;have haddr:(⟨σ.2.2.2.1,0,none⟩:Addr).add (es.length*4)=⟨σ.2.2.2.1,es.length*4,none⟩:=by unfold Addr.add;split<;>simp_all
   refine Seq.km (g:=σ.2.2.2.1) (off:=es.length*4) rfl (congrArg (fun a=>some (Value.pointer (some a))) haddr) rfl rfl (m:=4) (by kernel_rfl) hones.1 (jf hones.2) kv (by rw[hones.1];exact hfit) rfl rfl ?_;intro w6 p6;refine Seq.nil ?_;have hne:=hB.ne;have hsz:=hXa.fz.size;have hown6:=hset w6 σ.1.cells hones.1 p6;have hcv:cap=σ.2.2.2.2.1:=by injection hvv with _ _ h3;exact h3.symm
   refine ae.mh (σ:=σ) (σ':=σ) rfl rfl rfl (fun _ _=>rfl) ⟨(fun h=>by have h:S 6=false:=h;rw[hpre 6 (ao rfl)] at h;cases h),fun _=>⟨x,q,hr,hXa,?_⟩⟩
   exact⟨by have:=hown6;exact this,hB.box.put p6 (fun e=>hne e.symm),⟨hB.pw.an.put p6 (by omega),hB.pw.rd.below (p6.below (by omega) hgvl),hB.pw.bJ,hB.pw.eo⟩,hB.kp.put kv p6 hgv,hB.fz.put kv p6 hgv,Nat.le_trans hB.hs (Nat.le_of_eq p6.size.symm),fun b h1 h2 h3=>(p6.grown.block b (Nat.lt_of_lt_of_le h1 hB.hs) (fun e=>by
    injection e with e
    rcases hB.hv with e'|e'
    ·exact h3 (by rw[←e',e])
    ·omega)).trans (hB.hb b h1 h2 h3),hB.hv,hne⟩
  |9,ho=>
   injection ho with ho
   subst ho;intro σ S w hS hpre hdc hX;refine Seq.val (aa.gx 3 rfl rfl Tryz.underlying105 rfl (by kernel_rfl)) rfl rfl rfl (Seq.nil ?_);exact ae.aD rfl rfl rfl hpre rfl (fun _ _=>rfl) hX
  |10,ho=>
   injection ho with ho
   subst ho;intro σ S w hS hpre hdc hX;obtain⟨x,q,hr,hXa,hB⟩:=hX.2 (hpre 6 (ao rfl));have hbox:=hB.box;refine Zq hbox ?_;intro w6 p6;refine Seq.nil ?_;have hne:=hB.ne;have hown:=hB.own;refine ae.mh (σ:=σ) (σ':=σ) rfl rfl rfl (fun _ _=>rfl) ⟨(fun h=>by have h:S 6=false:=h;rw[hpre 6 (ao rfl)] at h;cases h),fun _=>⟨x,q,hr,hXa,?_⟩⟩
   exact⟨hown.kB (Nat.le_of_eq p6.size.symm) (fun b e=>p6.grown.block b (hown.aS b e).2 (fun e'=>by
    have e1:σ.2.2.2.1=b:=by injection e
    have e2:b=gt:=by injection e'
    exact hne (e1.trans e2))),p6.an,⟨hB.pw.an.put p6 (by omega),hB.pw.rd.below (p6.below (by omega) hbox.lt),hB.pw.bJ,hB.pw.eo⟩,hB.kp.put hbox p6 hgt,hB.fz.put hbox p6 hgt,Nat.le_trans hB.hs (Nat.le_of_eq p6.size.symm),fun b h1 h2 h3=>(p6.grown.block b (Nat.lt_of_lt_of_le h1 hB.hs) (fun e=>h2 (by injection e))).trans (hB.hb b h1 h2 h3),hB.hv,hne⟩
  |k+11,ho=>simp at ho
 rintro⟨v5,S5,g7,gv,cap,W3⟩ S w9 hS hX;obtain⟨x,q,hr,hXa,hB⟩:=hX.2 (hS 6 (by decide));obtain⟨x',q',hr',-,hrep,haway⟩:=hXa.post rfl;rw[hr] at hr';injection hr' with e1 e2
 subst e1 e2;dsimp only at hrep haway hXa hB;rw[hS 8 (by decide),hS 10 (by decide)] at hB;have aq3:=aq.fz hXa.fz hg0;have hsz:=hXa.fz.size;rw[hr]
 have hfin:=aq3.Cc hrep (fun b hb=>⟨by have:=(haway b hb).1;omega,(haway b hb).2,by have:=(haway b hb).1;omega,fun e=>by have:=(aq.fB.aS b e).2;have:=(haway b hb).1;omega,fun e=>by cases e⟩) hB.own hB.hs
  (fun b _ h2 h3 h4=>hB.hb b h2 h3 h4) (hB.hv.elim .inl fun e=> .inr ⟨_,rfl,Nat.le_of_eq e.symm⟩) (by omega)
 refine dF 0 1 ?_;refine ae.gu rfl (.inr rfl) ?_;exact⟨hB.fz,_,rfl,hB.pw,hB.kp,_,_,_,hB.box,hfin⟩
section
variable {W:World} {h gt:Nat} {es:List Ex} {ts:List Tm} {evs tvs:List Value} {vE vT:Value} {S:Nat→Prop}
theorem Own.rows {B n size:Nat}{e:TypeId}{v:Value}{xs:List Value}{S':Nat→Prop}(o:Own W B e size v n xs)(hS:∀b,v.ownBlock=some b→S' b):∃A c,v= .slice A n c∧Rows W S' A xs:=by
 obtain⟨h1,⟨rfl,rfl⟩|⟨g,cap,cur,rfl,e2,e3,e4,e5,e6,e7⟩⟩:=o.row
 ·refine⟨none,0,rfl,fun hne=> ?_⟩
  rw[Nat.zero_mul] at h1;exact absurd (List.eq_nil_of_length_eq_zero h1) hne
 ·obtain⟨A,c,hv,hr⟩:=o.reads
  injection hv with e1 _ _
  subst e1;refine⟨_,cap,rfl,fun hne=> ?_⟩;rcases Nat.eq_zero_or_pos n with h0|h0
  ·subst h0
   rw[Nat.zero_mul] at h1;exact absurd (List.eq_nil_of_length_eq_zero h1) hne
  ·obtain⟨ad,hA,hb,hc⟩:=hr.2 h0
   injection hA with hA
   subst hA;exact⟨_,rfl,hS _ rfl,hc⟩
def sX (S:Nat→Prop)(vE vT:Value)(b:Nat):Prop:=S b∨vE.ownBlock=some b∨vT.ownBlock=some b
theorem dw.bounds (a:dw W h gt es ts evs tvs vE vT S):∀b,sX S vE vT b→h≤b∧b<W.heap.size∧b≠gt:=fun b hb=>by
 rcases hb with hb|hb|hb
 ·obtain⟨h1,h2,h3,-,-⟩:=a.C3 b hb
  exact⟨h1,h2,h3⟩
 ·obtain⟨h1,h2⟩:=a.fB.aS b hb
  exact⟨h1,h2,fun e=>a.zL (by rw[hb,e])⟩
 ·obtain⟨h1,h2⟩:=a.fO.aS b hb
  exact⟨h1,h2,fun e=>a.zK (by rw[hb,e])⟩
theorem dw.ex (a:dw W h gt es ts evs tvs vE vT S)(op z:Int)(nm:List Nat)(h1:bm op)(h2:bm z)(h3:∀d∈nm,d<256)(h4:nm.length≤9223372036854775807)(hl:es.length≤1000):cw W (sX S vE vT) (.mk op z nm es) (.agg #[.int .i64 op, .int .i64 z, .string (strOf nm),vE]):=by
 obtain⟨A,c,hv,hr⟩:=a.fB.rows (S':=sX S vE vT) (fun b hb=> .inr (.inl hb));rw[hv];rw[hv] at hr a;exact cw.mk a.uE hl h1 h2 h3 h4 (fun i e v e1 e2=>(a.Ba i e v e1 e2).mono (fun _ h=> .inl h) (fun _ _=>rfl)) hr
theorem dw.tm (a:dw W h gt es ts evs tvs vE vT S)(op:Int)(nm:List Nat)(h1:bm op)(h3:∀d∈nm,d<256)(h4:nm.length≤9223372036854775807)(hl:es.length≤1000)(hl':ts.length≤1000):dr W (sX S vE vT) (.mk op nm es ts) (.agg #[.int .i64 op, .string (strOf nm),vE,vT]):=by
 obtain⟨A,c,hv,hr⟩:=a.fB.rows (S':=sX S vE vT) (fun b hb=> .inr (.inl hb));obtain⟨A',c',hv',hr'⟩:=a.fO.rows (S':=sX S vE vT) (fun b hb=> .inr (.inr hb));rw[hv,hv'];rw[hv,hv'] at hr hr' a;exact dr.mk a.uE a.xl hl hl' h1 h3 h4 (fun i e v e1 e2=>(a.Ba i e v e1 e2).mono (fun _ h=> .inl h) (fun _ _=>rfl)) (fun i e v e1 e2=>(a.Dp i e v e1 e2).mono (fun _ h=> .inl h) (fun _ _=>rfl)) hr hr'
end
theorem dw.nil (W:World)(h gt:Nat):dw W h gt [] [] [] [] (.slice none 0 0) (.slice none 0 0) (fun _=>False):=
 ⟨rfl,rfl,Own.nil _ _ _ _,Own.nil _ _ _ _,fun i e v h1=>by simp at h1,fun i e v h1=>by simp at h1,fun b h=>h.elim,(by intro h;cases h),(by intro h;cases h)⟩
theorem zN:∀args w,(callFunc 242 args).run Tryz.prog w= .ok (.enter 242 args) w:=fun args w=>bG Tryz.func242 (by kernel_rfl) rfl args w
theorem eF:bW Tryz.prog 1=some (some .nilFunc):=by kernel_rfl
theorem gV (a:Int)(w:World):(Instr.build 105 #[(0, .int .i64 a)]).run Tryz.prog w= .ok (.agg #[.int .i64 a, .int .i64 0, .string (strOf []), .slice none 0 0]) w:=by
 have hu:=Tryz.underlying105
 go_simp
 rfl
theorem qm {α:Type}(ws:List Wd):∀(aV:List (Nat→Nat→Rs α)) (first:Bool) (p d:Nat) (xs:List α) (q:Nat),bl ws aV first p d= .ok xs q→xs.length=aV.length
 | [],_,p,d,xs,q,h=>by
  unfold bl at h;injection h with h
  rw[←h];rfl
 |one::r,first,p,d,xs,q,h=>by
  rw[jl] at h
  cases h1:(if first=true then Rs.ok () p else bF ws [44] p) with
  |out=>rw[h1] at h;cases h
  |bad a b=>rw[h1] at h;cases h
  |ok u p1=>
   rw[h1,Rs.bB] at h
   cases h2:one p1 d with
   |out=>rw[h2] at h;cases h
   |bad a b=>rw[h2] at h;cases h
   |ok x p2=>
    rw[h2,Rs.bB] at h
    cases h3:bl ws r false p2 d with
    |out=>rw[h3] at h;cases h
    |bad a b=>rw[h3] at h;cases h
    |ok ys p3=>
     rw[h3,Rs.bB] at h;injection h with h _
     rw[←h,List.length_cons,List.length_cons,qm ws r false p2 d ys p3 h3]
theorem eE {α:Type}{ws:List Wd}{aV:List (Nat→Nat→Rs α)}{p d:Nat}{xs:List α}{q:Nat}(h:aT ws aV p d= .ok xs q):xs.length=aV.length:=by
 unfold aT at h
 cases h1:bF ws [40] p with
 |out=>rw[h1] at h;cases h
 |bad a b=>rw[h1] at h;cases h
 |ok u p1=>
  rw[h1,Rs.bB] at h
  cases h2:db p1 d with
  |out=>rw[h2] at h;cases h
  |bad a b=>rw[h2] at h;cases h
  |ok u p2=>
   rw[h2,Rs.bB] at h
   cases h3:bl ws aV true p2 (d+1) with
   |out=>rw[h3] at h;cases h
   |bad a b=>rw[h3] at h;cases h
   |ok ys p3=>
    rw[h3,Rs.bB] at h
    cases h4:bF ws [41] p3 with
    |out=>rw[h4] at h;cases h
    |bad a b=>rw[h4] at h;cases h
    |ok u p4=>
     rw[h4,Rs.bB] at h;injection h with h _
     rw[←h];exact qm ws aV true p2 (d+1) ys p3 h3
theorem Kp.own {w W:World}{B n size:Nat}{e:TypeId}{v:Value}{xs:List Value}(a:Kp w W)(o:Own w B e size v n xs)(h1:e≠71:=by decide)(h2:e≠105:=by decide)(h3:e≠219:=by decide):Own W B e size v n xs:=by
 obtain⟨r1,⟨r2,r3⟩|⟨g,cap,cur,rfl,e2,e3,e4⟩⟩:=o.row
 ·exact⟨r1, .inl ⟨r2,r3⟩⟩
 ·exact⟨r1, .inr ⟨g,cap,cur,rfl,e2,a.eQ g e cur e3 h1 h2 h3,e4⟩⟩
def Et (K:Ctx)(E0:Nat→Nat→Rs Ex):Prop:=∀p d W,PW K W p d false→E0 p d≠ .out→Calls Tryz.prog 151 #[.pointer (some ⟨K.g,0,none⟩), .int .i64 0] W (PR K W d (E0 p d) (pb W))
theorem nb (K:Ctx)(hK:K.Ok)(E0:Nat→Nat→Rs Ex)(hE:Et K E0)(op:Int)(k p d:Nat)(w:World)(pw:PW K w p d false)(hp:p+1≤K.ws.length)(hop:bm op)(hk:k≤3)(hne:bV K.ws E0 op k p d≠ .out):
  Calls Tryz.prog 237 #[.pointer (some ⟨K.g,0,none⟩), .int .i64 op, .int .i64 (k:Int)] w (PR K w d (bV K.ws E0 op k p d) (pb w)):=by
 have ab:=Fz.refl w.heap.size K.g w;have k99:=pw.an;have e99:K.g=K.g:=rfl;have hlt:=pw.an.lt;have hlen:=hK.len;have hle:=hK.le;refine Zs 30 Tryz.func237 ?_;refine aj ?_;refine Seq.box rfl rfl rfl rfl rfl ?_;intro g3 w1 n3;have e3:=Nat.le_trans ab.size n3.ge;have l3:=Nat.lt_of_lt_of_le k99.lt n3.ge;replace ab:=ab.step n3.below;replace k99:=k99.step n3.below;have k3:=n3.an;refine Zl az ?_;intro g6 w2 n6;have e6:=Nat.le_trans ab.size n6.ge;have l6:=Nat.lt_of_lt_of_le k3.lt n6.ge;replace ab:=ab.step n6.below;replace k99:=k99.step n6.below;replace k3:=k3.step n6.below;have k6:=n6.an;refine aO 0 1 2 3 6 (aB ?_);refine ZL Tryz.underlying189 k3 ?_;refine Zv (aa.nilCheck rfl rfl) ?_;refine Zf 1 Tryz.underlying219 ?_;refine ZL Tryz.underlying3 k99 ?_;refine cG ?_;refine Zv (aa.nilCheck rfl rfl) ?_;refine Zf 1 Tryz.underlying219 ?_;refine Zq k99 ?_;intro w3 pw3;replace ab:=ab.put k99 pw3 e99;replace k3:=k3.put pw3 (by omega);replace k6:=k6.put pw3 (by omega);replace k99:=pw3.an;refine aO 0 1 2 3 6 (aB ?_);refine Zm ?_;refine Zv (aa.build rfl rfl (gV op _)) ?_;refine Zl az ?_;intro g7 w4 n7;have e7:=Nat.le_trans ab.size n7.ge;have l7:=Nat.lt_of_lt_of_le k6.lt n7.ge;replace ab:=ab.step n7.below;replace k99:=k99.step n7.below;replace k3:=k3.step n7.below;replace k6:=k6.step n7.below;have k7:=n7.an;refine Zo 4 k7 ?_;intro w5 pw5;replace ab:=ab.put k7 pw5 e7;replace k99:=k99.put pw5 (by omega);replace k3:=k3.put pw5 (by omega);replace k6:=k6.put pw5 (by omega);replace k7:=pw5.an;refine aY 0 1 2 3 6 7 (aB ?_);refine Za ?_;refine ba 0 1 2 3 6 7 8 (aI (aj ?_));refine Zm ?_;refine Zm ?_;refine dY 0 1 2 3 6 7 8 18 19 (Zt (Cd.block ?_));have pwl:=pw.next hle hp ab k99;obtain⟨wl,hwl⟩:∃wl,wl=w5:=⟨_,rfl⟩;rw[←hwl] at pwl ab k3 k6 k7 k99⊢;have bel0:=ab;have l37:g3<g7:=by omega
 have hgg7:K.g<g7:=by omega
 have hs0:=ab.size;replace ab:=Below.refl wl.heap.size wl;refine Cd.loop (σ:=Nat × Value) (fun s=>[(3, .pointer (some ⟨g3,0,none⟩)),(6, .pointer (some ⟨g6,0,none⟩)),(7, .pointer (some ⟨g7,0,none⟩)),(8,s.2),(18, .int .i64 (k:Int)),(19, .int .i64 (s.1:Int))]) (fun s wr=>s.1≤k∧Below wl.heap.size wl wr∧Own wr wl.heap.size 1 1 s.2 s.1 (List.replicate s.1 (.func (.func 242) #[] #[.pointer (some ⟨g7,0,none⟩), .pointer (some ⟨g3,0,none⟩)]))) (fun s=>k-s.1) (0, .slice none 0 0) ⟨Nat.zero_le _,ab,Own.nil _ _ _ _⟩ ⟨rfl,rfl,rfl,rfl,rfl,rfl,trivial⟩ ?_;clear ab;rintro⟨i,v⟩ wr ⟨hi,ab,own⟩;dsimp only at hi own⊢;refine aj ?_;refine eI ?_;refine ba 3 6 7 8 18 19 20 (aI ?_);refine Cd.ak rfl (fun hc=> ?_) (fun hc=> ?_)
 ·skip
  refine Cd.skip (aI (Cd.block (Zr ?_)));refine Zm ?_;refine Zv (aa.makeFunc (v:= .func (.func 242) #[] #[.pointer (some ⟨g7,0,none⟩), .pointer (some ⟨g3,0,none⟩)]) rfl (show jn _ _=some [] from rfl) (show jn _ _=some [.pointer (some ⟨g7,0,none⟩), .pointer (some ⟨g3,0,none⟩)] from rfl) rfl) ?_;refine Seq.slice (vs:=[_]) (s:=1) rfl rfl rfl Tryz.underlying225 (by kernel_rfl) (eF) (by omega) (by omega) ⟨rfl,trivial⟩ rfl rfl rfl ?_;intro g23 w6 n23;have e23:=Nat.le_trans ab.size n23.ge;replace ab:=ab.step n23.below;replace own:=own.step n23.below;have k23:=n23.an;refine Seq.append rfl rfl rfl Tryz.underlying225 (by kernel_rfl) eF rfl (by decide) (b:=8) (by kernel_rfl) own (Reads.an k23 1 rfl) (by intro x hx;simp[aN,Value.cells] at hx;rw[hx];rfl) ab.size (by simp only[maxLen];omega) (by omega) rfl rfl rfl ?_;clear own;intro vw7 w7 own haw7;replace ab:=ab.trans haw7.below;refine Za ?_;refine ba 3 6 7 8 18 19 20 (ae.ah (eh ?_));refine cG ?_;refine Zm ?_;refine ba 3 6 7 8 18 19 20 ?_;refine ae.round (i+1,_) ⟨rfl,rfl,rfl,rfl,rfl,rfl,trivial⟩ ⟨by dsimp only;omega,ab,?_⟩ (by dsimp only;omega);dsimp only;rw[List.replicate_succ'];exact own
 obtain rfl:i=k:=by omega
 have pw9:=pwl.step hle ab;replace k3:=k3.step ab;replace k6:=k6.step ab;replace k7:=k7.step ab;obtain⟨AP,cP,rfl,-⟩:=own.reads;have hsr:=ab.size;obtain⟨R,hR⟩:∃R,R=aT K.ws (List.replicate i E0) (p+1) d:=⟨_,rfl⟩;have hcd:bV K.ws E0 op i p d=R.bind fun xs p=> .ok (.mk op 0 [] xs) p:=by rw[hR];rfl
 have hneR:R≠ .out:=Rs.fD (by rw[←hcd];exact hne);have hfl:(List.replicate i (242,[Value.pointer (some ⟨g7,0,none⟩),Value.pointer (some ⟨g3,0,none⟩)])).length=i:=List.length_replicate
 have hrepl:∀ {β:Type} {x y:β} {j:Nat},(List.replicate i x)[j]? =some y→y=x∧j<i:=fun {β x y j} h=>by
  have h1:=(List.getElem?_eq_some_iff.1 h).1;rw[List.length_replicate] at h1;rw[List.getElem?_replicate,if_pos h1] at h;injection h with h
  exact⟨h.symm,h1⟩
 have hwi:=j2 K hK g7 (List.replicate i E0) (List.replicate i (242,[Value.pointer (some ⟨g7,0,none⟩),Value.pointer (some ⟨g3,0,none⟩)])) AP cP
  (fun xs W=>Kp wr W∧∃evs vE S,aH W g7 105 #[.int .i64 op, .int .i64 0, .string (strOf []),vE]∧dw W g7 g7 xs [] evs [] vE (.slice none 0 0) S) (p+1) d wr pw9 (by have:=k7.lt;omega) (by rw[List.length_replicate,List.length_replicate]) (by rw[List.length_replicate];omega)
  ⟨Kp.refl wr,[],_,_,k7,dw.nil wr g7 g7⟩
  (fun xs W W' p d hM hp hf=>by
   obtain⟨kp,evs,vE,S,kt,aq⟩:=hM;exact⟨kp.fz hp.an hf,evs,vE,S,kt.fz hf (by omega),aq.fz hf hgg7⟩)
  (fun xs W j f cp hM hj=>by
   obtain⟨kp,-⟩:=hM;obtain⟨e1,hji⟩:=hrepl hj;injection e1 with e1 e2
   subst e1 e2;obtain⟨A',c',hv,hr⟩:=(kp.own own).reads;injection hv with hv _ _
   subst hv;obtain⟨ad,hA,-,hc⟩:=hr.2 (by omega);exact⟨ad,hA,hc j _ (by rw[List.getElem?_replicate,if_pos hji])⟩)
  (fun j f cp hj=>by
   obtain⟨e1,-⟩:=hrepl hj;injection e1 with e1 e2
   subst e1;exact zN)
  (fun j f cp one hj ho xs W p' hxl hpw hW hM hne1=>by
   obtain⟨e1,hji⟩:=hrepl hj;injection e1 with e1 e2
   subst e1 e2;obtain⟨e3,-⟩:=hrepl ho;subst e3;obtain⟨kp,evs,vE,S,kt,aq⟩:=hM;exact(vU K hK g7 g7 g3 (d+1) p' op 0 [] xs evs vE S one W hpw hgg7 (Nat.le_refl _) hW kt (kp.an k3) aq (by omega) (fun W' h1 _=>hE p' (d+1) W' h1 hne1) hne1).mono fun e W' hq=>hq.mono fun a v W' h=>⟨kp.trans h.1,h.2⟩)
  (by rw[←hR];exact hneR)
 rw[←hR,hfl] at hwi;have e0:Fz w.heap.size K.g w wr:=bel0.step ab;refine Cd.exit (ae.aC (ae.aA (ae.ay (aB ?_))));refine ZL Tryz.underlying189 k3 ?_;refine Zm ?_;rcases Rs.dA hneR with ⟨q,ov,hr⟩|⟨xs,q,hr⟩
 ·rw[hr] at hwi hcd
  refine Seq.cZ (Ze Tryz.func166) rfl hwi ?_;rintro e w6 ⟨hf,rfl,d6,hp6⟩;refine⟨_,rfl,fun a ha=>⟨ha.defers,?_⟩⟩;rw[hcd];exact⟨e0.trans (hf.less (by omega)),rfl,d6,hp6⟩
 rw[hr] at hwi hcd;replace hcd:bV K.ws E0 op i p d= .ok (.mk op 0 [] xs) q:=hcd;have k6lt:g6<g7:=by omega
 refine Zc (Ze Tryz.func166) (hwi) ?_;rintro e wq ⟨hf,v6,rfl,pwq,kp6,evs,vE,S,kt6,aq6⟩;refine⟨_,rfl,?_⟩
 have k66:aH wq g6 105 #[.int .i64 0, .int .i64 0, .string {data:= #[]}, .slice none 0 0]:=by
  have k6:aH wr g6 105 #[.int .i64 0, .int .i64 0, .string {data:= #[]}, .slice none 0 0]:=k6;have h1:=hf.block g6 k6lt (by omega);unfold aH at k6⊢;rw[h1];exact k6
 have e1:Fz w.heap.size K.g w wq:=e0.trans (hf.less (by omega));clear hwi;obtain⟨AX,cX,hvX,-⟩:=aq6.fB.reads;subst hvX;clear k6 k7 ab bel0 k3;have k6:=k66;have k7:=kt6;have ab:=e1
 have hxl:xs.length=i:=by
  have:=eE (hR.symm.trans hr);rw[List.length_replicate] at this;exact this
 have e6:w.heap.size≤g6:=by omega
 have hrx:=aq6.ex op 0 [] hop (by unfold bm;omega) (by simp) (by simp) (by omega);have hbn:=aq6.bounds;have hlq:=k6.lt;refine ba 3 6 7 8 18 19 20 (aB ?_);refine ZW 4 Tryz.underlying105 k7 ?_;refine Zo 4 k6 ?_;intro w6 pw6;replace ab:=ab.put k6 pw6 e6;replace k7:=k7.put pw6 (by omega);replace k6:=pw6.an;refine ba 3 6 7 8 18 19 20 (Zt (Cd.ret ?_));refine gp 4 k6 Tryz.underlying105 ?_;rw[hcd];have hsz:=pw6.size;refine⟨ab,_,rfl,⟨pwq.an.put pw6 (by omega),pwq.rd.below (pw6.below (by omega) hlq),pwq.bJ,pwq.eo⟩,_,hrx.mono (fun _ h=>h) (fun a ha=>World.cell?_of_block (pw6.grown.block _ (hbn _ ha).2.1 (fun e=>by injection e with e;have:=(hbn _ ha).1;omega))),fun b hb=> ?_⟩;obtain⟨h1,h2,-⟩:=hbn b hb;exact⟨by omega,by omega⟩
theorem lu.all {w w':World}{g m:Nat}{T:TypeId}{cs vc:Array Value}(p:lu w w' g T (cs.toList.take 0++(vc.toList++cs.toList.drop (0+vc.size))).toArray)(h1:vc.size=m)(h2:cs.size=m):aH w' g T vc:=by
 have hcells:(cs.toList.take 0++(vc.toList++cs.toList.drop (0+vc.size))).toArray=vc:=by
  have:cs.toList.drop (0+vc.size)=[]:=List.drop_of_length_le (by rw[h1];simp[h2]);rw[this];simp
 have:=p.an
 rwa [hcells] at this
theorem PW.to {K:Ctx}{w W:World}{p d:Nat}{ov:Bool}(h:PW K w p d ov)(hK:K.B≤K.g)(ab:Fz w.heap.size K.g w W)(hb:aH W K.g 219 #[.slice K.A K.ws.length K.c, .int .i64 (p:Int), .int .i64 (d:Int), .bool ov, .int .i64 (K.en:Int)]):PW K W p d ov:=
 ⟨hb,h.rd.below (ab.below (by have:=h.an.lt;omega) hK),h.bJ,h.eo⟩
theorem Dt:∀args w,(callFunc 238 args).run Tryz.prog w= .ok (.enter 238 args) w:=fun args w=>bG Tryz.func238 (by kernel_rfl) rfl args w
theorem ny (a:Int)(s:List Nat)(w:World):(Instr.build 105 #[(0, .int .i64 a),(2, .string (strOf s))]).run Tryz.prog w= .ok (.agg #[.int .i64 a, .int .i64 0, .string (strOf s), .slice none 0 0]) w:=by
 have hu:=Tryz.underlying105
 go_simp
def zD (h g:Nat)(xs:List Ex)(W:World):Prop:=∃cs,aH W g 105 cs∧cs.size=4∧∀x,xs[0]? =some x→∃(S:Nat→Prop) (v:Value),cs=v.cells∧cw W S x v∧∀b,S b→h≤b∧b<W.heap.size∧b≠g
theorem zD.fz {h g q:Nat}{xs:List Ex}{W W':World}(m:zD h g xs W)(f:Fz W.heap.size q W W')(hq:q<h)(hg:h≤g):zD h g xs W':=by
 obtain⟨cs,h1,h2,h3⟩:=m;refine⟨cs,h1.fz f (by omega),h2,fun x hx=> ?_⟩;obtain⟨S,v,e1,e2,e3⟩:=h3 x hx;refine⟨S,v,e1,e2.mono (fun _ h=>h) (fun a ha=>World.cell?_of_block (f.block _ (e3 _ ha).2.1 (by have:=(e3 _ ha).1;omega))),fun b hb=> ?_⟩;obtain⟨b1,b2,b3⟩:=e3 b hb;exact⟨b1,Nat.lt_of_lt_of_le b2 f.size,b3⟩
theorem AA (K:Ctx)(hK:K.Ok)(h0 b1 gt d p:Nat)(T:Nat→Nat→Rs Ex)(w:World)(pw:PW K w p d false)(hg0:K.g<h0)(hgt:h0≤gt)(hh:h0≤w.heap.size)(kb1:aH w b1 189 #[.pointer (some ⟨K.g,0,none⟩)]) (kt:zD h0 gt [] w)
  (hc:∀W,PW K W p d false→Fz w.heap.size K.g w W→Calls Tryz.prog 151 #[.pointer (some ⟨K.g,0,none⟩), .int .i64 0] W (PR K W d (T p d) (pb W))) (hne:T p d≠ .out):
  Calls Tryz.prog 238 #[.pointer (some ⟨b1,0,none⟩), .pointer (some ⟨gt,0,none⟩)] w (vJ K h0 w d (T p d) fun x _ W'=>Kp w W'∧zD h0 gt [x] W'):=by
 have hle:=hK.le;have ab:=Fz.refl w.heap.size K.g w;have k1:=kb1;have hcl:=hc w pw ab;refine Zs 4 Tryz.func238 ?_;refine Zr ?_;refine ZL Tryz.underlying189 k1 ?_;rcases Rs.dA hne with ⟨q,ov,hr⟩|⟨x,q,hr⟩
 ·rw[hr] at hcl
  refine Seq.cZ (Ze Tryz.func151) rfl hcl ?_;rintro e w6 ⟨hf,rfl,d6,hp6⟩;refine⟨_,rfl,fun a ha=>⟨ha.defers,?_⟩⟩;rw[hr];exact⟨hf.less hh,rfl,d6,hp6⟩
 rw[hr] at hcl⊢;refine Zc (Ze Tryz.func151) (hcl) ?_;rintro e wq ⟨hf,v6,rfl,pwq,S,hrep,hb⟩;refine⟨_,rfl,?_⟩;obtain⟨cs,h1,h2,-⟩:=kt;have kq:=h1.fz hf (by omega);have hones:=hrep.aV;have hlt:=h1.lt;refine Seq.km rfl rfl rfl rfl (m:=4) (by kernel_rfl) hones.1 (jf hones.2) kq (by rw[hones.1,h2];omega) rfl rfl ?_;intro w7 p7;refine dF 0 1 ?_;refine ae.gu rfl (.inr rfl) ?_;have hs:=p7.size
 have hcells:(cs.toList.take 0++(v6.cells.toList++cs.toList.drop (0+v6.cells.size))).toArray=v6.cells:=by
  have:cs.toList.drop (0+v6.cells.size)=[]:=List.drop_of_length_le (by rw[hones.1];simp[h2]);rw[this];simp
 have kb:=p7.an;rw[hcells] at kb;refine⟨(hf.less hh).trans ((Fz.refl h0 K.g wq).put kq p7 hgt),_,rfl,⟨pwq.an.put p7 (by omega),pwq.rd.below (p7.below (by omega) kq.lt),pwq.bJ,pwq.eo⟩,((Kp.refl w).fz pw.an hf).put kq p7 hgt,_,kb,hones.1,fun y hy=> ?_⟩;simp at hy;subst hy;exact⟨S,v6,rfl,hrep.mono (fun _ h=>h) (fun a ha=>World.cell?_of_block (p7.grown.block _ (hb _ ha).2 (fun e=>by injection e with e;have:=(hb _ ha).1;omega))),fun b hb'=>⟨by have:=(hb b hb').1;omega,by have:=(hb b hb').2;omega,by have:=(hb b hb').1;omega⟩⟩
theorem C7 (K:Ctx)(hK:K.Ok)(E0:Nat→Nat→Rs Ex)(hE:Et K E0)(p d:Nat)(w:World)(pw:PW K w p d false)(hne:fm K.ws E0 p d≠ .out):
  Calls Tryz.prog 222 #[.pointer (some ⟨K.g,0,none⟩)] w (PR K w d (fm K.ws E0 p d) (pb w)):=by
 have ab:=Fz.refl w.heap.size K.g w;have k99:=pw.an;have e99:K.g=K.g:=rfl;have hlt:=pw.an.lt;have hlen:=hK.len;have hle:=hK.le;have hpl:=pw.bJ;obtain⟨a1,a2,a3,a4,a5⟩:=hK.at_ p;obtain⟨b1,b2,b3⟩:=K.kj p;have hw:=fun W h=>ik K hK p d false W h;unfold FA at hw
 have hq:fm K.ws E0 p d=if(K.at_ p).kind=1 then .ok (.mk 1 (K.at_ p).n [] []) (p+1) else if(K.at_ p).kind=2 then .ok (.mk 2 (K.at_ p).n [] []) (p+1) else if(K.at_ p).kind=3 then
   if(K.at_ p).text=CB then .ok (.mk 4 0 [] []) (p+1) else if(K.at_ p).text=CQ then bV K.ws E0 9 2 p d else if(K.at_ p).text=BZ then bV K.ws E0 10 2 p d else if(K.at_ p).text=FQ then bV K.ws E0 21 3 p d else(eA K.ws p).bind fun nm p=> .ok (.mk 3 0 nm []) p
  else if(K.at_ p).kind=0 then(aT K.ws [E0] p d).bind fun xs p=> .ok (xs.getD 0 (.mk 0 0 [] [])) p else .bad p false:=by rw[b1,b2,b3];rfl
 have hp:(K.at_ p).kind≠ -1→p+1≤K.ws.length:=fun hk=>by
  rcases Nat.lt_or_ge p K.ws.length with h|h
  ·exact h
  ·exact absurd (by unfold Ctx.at_;rw[List.getD_eq_getElem?_getD,List.getElem?_eq_none h];rfl) hk
 refine Zs 58 Tryz.func222 ?_;refine aj ?_;refine Seq.box rfl rfl rfl rfl rfl ?_;intro g1 w1 n1;have e1:=Nat.le_trans ab.size n1.ge;have l1:=Nat.lt_of_lt_of_le k99.lt n1.ge;replace ab:=ab.step n1.below;replace k99:=k99.step n1.below;have k1:=n1.an;refine Zl az ?_;intro g2 w2 n2;have e2:=Nat.le_trans ab.size n2.ge;have l2:=Nat.lt_of_lt_of_le k1.lt n2.ge;replace ab:=ab.step n2.below;replace k99:=k99.step n2.below;replace k1:=k1.step n2.below;have k2:=n2.an;refine bn 0 1 2 (aB ?_);refine ZL Tryz.underlying189 k1 ?_;refine Zc (Ze Tryz.func164) (hw _ (pw.to hle ab k99)) ?_;rintro e w5 ⟨rfl,hb5⟩;refine⟨_,rfl,?_⟩;replace ab:=ab.step hb5;replace k99:=k99.step hb5;replace k1:=k1.step hb5;replace k2:=k2.step hb5;refine Zl bK ?_;intro g3 w3 n3;have e3:=Nat.le_trans ab.size n3.ge;have l3:=Nat.lt_of_lt_of_le k2.lt n3.ge;replace ab:=ab.step n3.below;replace k99:=k99.step n3.below;replace k1:=k1.step n3.below;replace k2:=k2.step n3.below;have k3:=n3.an;refine Zo 4 k3 ?_;intro w4 pw4;replace ab:=ab.put k3 pw4 e3;replace k99:=k99.put pw4 (by omega);replace k1:=k1.put pw4 (by omega);replace k2:=k2.put pw4 (by omega);replace k3:=pw4.an;refine aQ 0 1 2 3 (aB ?_);refine Zl az ?_;intro g4 w5 n4;have e4:=Nat.le_trans ab.size n4.ge;have l4:=Nat.lt_of_lt_of_le k3.lt n4.ge;replace ab:=ab.step n4.below;replace k99:=k99.step n4.below;replace k1:=k1.step n4.below;replace k2:=k2.step n4.below;replace k3:=k3.step n4.below;have k4:=n4.an;refine aO 0 1 2 3 4 (aI (aj ?_));refine Zf 0 Tryz.underlying221 ?_;refine ZL Tryz.underlying3 k3 ?_;refine aY 0 1 2 3 4 8 (Zt (Cd.block (aj ?_)));refine bC ?_;refine Za ?_;refine ba 0 1 2 3 4 8 11 (Zt ?_);refine Cd.ak rfl (fun c1=> ?_) (fun c1=> ?_)
 ·rw[if_pos c1] at hq
  have hp1:=hp (by omega);refine Zr ?_;refine Zf 2 Tryz.underlying221 ?_;refine ZL Tryz.underlying2 k3 ?_;refine Zv (aa.build rfl rfl (lC 1 _ _)) ?_;refine Zo 4 k4 ?_;intro w6 pw6;replace ab:=ab.put k4 pw6 e4;replace k99:=k99.put pw6 (by omega);replace k1:=k1.put pw6 (by omega);replace k2:=k2.put pw6 (by omega);replace k3:=k3.put pw6 (by omega);replace k4:=pw6.an;refine ba 0 1 2 3 4 8 11 (ae.ah (aB ?_));refine ZL Tryz.underlying189 k1 ?_;refine Zv (aa.nilCheck rfl rfl) ?_;refine Zf 1 Tryz.underlying219 ?_;refine ZL Tryz.underlying3 k99 ?_;refine cG ?_;refine Zv (aa.nilCheck rfl rfl) ?_;refine Zf 1 Tryz.underlying219 ?_;refine Zq k99 ?_;intro w7 pw7;replace ab:=ab.put k99 pw7 e99;replace k1:=k1.put pw7 (by omega);replace k2:=k2.put pw7 (by omega);replace k3:=k3.put pw7 (by omega);replace k4:=k4.put pw7 (by omega);replace k99:=pw7.an;refine ba 0 1 2 3 4 8 11 (aB ?_);refine ZW 4 Tryz.underlying105 k4 ?_;refine Zo 4 k2 ?_;intro w8 pw8;replace ab:=ab.put k2 pw8 e2;replace k99:=k99.put pw8 (by omega);replace k1:=k1.put pw8 (by omega);replace k3:=k3.put pw8 (by omega);replace k4:=k4.put pw8 (by omega);replace k2:=pw8.an;refine ba 0 1 2 3 4 8 11 (Zt (Cd.ret ?_));refine gp 4 k2 Tryz.underlying105 ?_;rw[hq];exact⟨ab,_,rfl,pw.next hle hp1 ab k99,fun _=>False,cw.mk (args:=[]) (vs:=[]) rfl (by simp) (by unfold bm;omega) a2 (by simp) (by simp) (fun i e v h=>by simp at h) (fun h=>absurd rfl h),fun b hb=>hb.elim⟩
 rw[if_neg c1] at hq;refine aj ?_;refine bC ?_;refine Za ?_;refine cB 0 1 2 3 4 8 11 16 (Zt ?_);refine Cd.ak rfl (fun c2=> ?_) (fun c2=> ?_)
 ·rw[if_pos c2] at hq
  have hp1:=hp (by omega);refine Zr ?_;refine Zf 2 Tryz.underlying221 ?_;refine ZL Tryz.underlying2 k3 ?_;refine Zv (aa.build rfl rfl (lC 2 _ _)) ?_;refine Zo 4 k4 ?_;intro w6 pw6;replace ab:=ab.put k4 pw6 e4;replace k99:=k99.put pw6 (by omega);replace k1:=k1.put pw6 (by omega);replace k2:=k2.put pw6 (by omega);replace k3:=k3.put pw6 (by omega);replace k4:=pw6.an;refine cB 0 1 2 3 4 8 11 16 (ae.ah (aB ?_));refine ZL Tryz.underlying189 k1 ?_;refine Zv (aa.nilCheck rfl rfl) ?_;refine Zf 1 Tryz.underlying219 ?_;refine ZL Tryz.underlying3 k99 ?_;refine cG ?_;refine Zv (aa.nilCheck rfl rfl) ?_;refine Zf 1 Tryz.underlying219 ?_;refine Zq k99 ?_;intro w7 pw7;replace ab:=ab.put k99 pw7 e99;replace k1:=k1.put pw7 (by omega);replace k2:=k2.put pw7 (by omega);replace k3:=k3.put pw7 (by omega);replace k4:=k4.put pw7 (by omega);replace k99:=pw7.an;refine cB 0 1 2 3 4 8 11 16 (aB ?_);refine ZW 4 Tryz.underlying105 k4 ?_;refine Zo 4 k2 ?_;intro w8 pw8;replace ab:=ab.put k2 pw8 e2;replace k99:=k99.put pw8 (by omega);replace k1:=k1.put pw8 (by omega);replace k3:=k3.put pw8 (by omega);replace k4:=k4.put pw8 (by omega);replace k2:=pw8.an;refine cB 0 1 2 3 4 8 11 16 (Zt (Cd.ret ?_));refine gp 4 k2 Tryz.underlying105 ?_;rw[hq];exact⟨ab,_,rfl,pw.next hle hp1 ab k99,fun _=>False,cw.mk (args:=[]) (vs:=[]) rfl (by simp) (by unfold bm;omega) a2 (by simp) (by simp) (fun i e v h=>by simp at h) (fun h=>absurd rfl h),fun b hb=>hb.elim⟩
 rw[if_neg c2] at hq;refine aj ?_;refine bC ?_;refine Za ?_;refine dY 0 1 2 3 4 8 11 16 21 (Zt ?_);refine Cd.ak rfl (fun c3=> ?_) (fun c3=> ?_)
 ·rw[if_pos c3] at hq
  have hp1:=hp (by omega);refine aj ?_;refine Zf 1 Tryz.underlying221 ?_;refine ZL Tryz.underlying9 k3 ?_;refine dq 0 1 2 3 4 8 11 16 21 24 (Zt (Cd.block (aj ?_)));refine Zv (aa.cI (b:=CB) rfl rfl rfl a3 (by decide)) ?_;refine Za ?_;refine dv 0 1 2 3 4 8 11 16 21 24 28 (Zt ?_);refine Cd.ak rfl (fun c4=> ?_) (fun c4=> ?_)
  ·rw[if_pos c4] at hq
   refine Zr ?_;refine Zv (aa.build rfl rfl (gV 4 _)) ?_;refine Zo 4 k4 ?_;intro w6 pw6;replace ab:=ab.put k4 pw6 e4;replace k99:=k99.put pw6 (by omega);replace k1:=k1.put pw6 (by omega);replace k2:=k2.put pw6 (by omega);replace k3:=k3.put pw6 (by omega);replace k4:=pw6.an;refine dv 0 1 2 3 4 8 11 16 21 24 28 (ae.ah (ae.ah (aB ?_)));refine ZL Tryz.underlying189 k1 ?_;refine Zv (aa.nilCheck rfl rfl) ?_;refine Zf 1 Tryz.underlying219 ?_;refine ZL Tryz.underlying3 k99 ?_;refine cG ?_;refine Zv (aa.nilCheck rfl rfl) ?_;refine Zf 1 Tryz.underlying219 ?_;refine Zq k99 ?_;intro w7 pw7;replace ab:=ab.put k99 pw7 e99;replace k1:=k1.put pw7 (by omega);replace k2:=k2.put pw7 (by omega);replace k3:=k3.put pw7 (by omega);replace k4:=k4.put pw7 (by omega);replace k99:=pw7.an;refine dv 0 1 2 3 4 8 11 16 21 24 28 (aB ?_);refine ZW 4 Tryz.underlying105 k4 ?_;refine Zo 4 k2 ?_;intro w8 pw8;replace ab:=ab.put k2 pw8 e2;replace k99:=k99.put pw8 (by omega);replace k1:=k1.put pw8 (by omega);replace k3:=k3.put pw8 (by omega);replace k4:=k4.put pw8 (by omega);replace k2:=pw8.an;refine dv 0 1 2 3 4 8 11 16 21 24 28 (Zt (Cd.ret ?_));refine gp 4 k2 Tryz.underlying105 ?_;rw[hq];exact⟨ab,_,rfl,pw.next hle hp1 ab k99,fun _=>False,cw.mk (args:=[]) (vs:=[]) rfl (by simp) (by unfold bm;omega) (by unfold bm;omega) (by simp) (by simp) (fun i e v h=>by simp at h) (fun h=>absurd rfl h),fun b hb=>hb.elim⟩
  rw[if_neg c4] at hq;refine aj ?_;refine Zv (aa.cI (b:=CQ) rfl rfl rfl a3 (by decide)) ?_;refine Za ?_;refine fY 0 1 2 3 4 8 11 16 21 24 28 31 (Zt ?_);refine Cd.ak rfl (fun c5=> ?_) (fun c5=> ?_)
  ·rw[if_pos c5] at hq
   refine aj ?_;refine ZL Tryz.underlying189 k1 ?_;have hcd:=nb K hK E0 hE 9 2 p d _ (pw.to hle ab k99) hp1 (by unfold bm;omega) (by omega) (by rw[←hq];exact hne);rw[←hq] at hcd;have hs0:=ab.size;have hk2:=k2.lt;rcases Rs.dA hne with ⟨q,ov,hr⟩|⟨x,q,hr⟩
   ·rw[hr] at hcd
    refine Seq.cZ (Ze Tryz.func237) rfl hcd ?_;rintro e w8 ⟨hf,rfl,d6,hp6⟩;refine⟨_,rfl,fun a ha=>⟨ha.defers,?_⟩⟩;rw[hr];exact⟨ab.call hf,rfl,d6,hp6⟩
   rw[hr] at hcd;refine Zc (Ze Tryz.func237) (hcd) ?_;rintro e wq ⟨hf,v6,rfl,pwq,S,hrep,hb⟩;refine⟨_,rfl,?_⟩;replace ab:=ab.call hf;replace k2:=k2.fz hf (by omega);have hones:=hrep.aV;refine Seq.km rfl rfl rfl rfl (m:=4) (by kernel_rfl) hones.1 (jf hones.2) k2 (by rw[hones.1];exact Nat.le_refl _) rfl rfl ?_;intro w9 p9;have pw9:=p9.all hones.1 rfl;have pb9:=ab.put k2 p9 e2;have hlt2:=k2.lt;clear k2 ab;have k2:=pw9;have ab:=pb9;obtain⟨AX,cX,hvX⟩:=hrep.form;refine fY 0 1 2 3 4 8 11 16 21 24 28 31 (Zt (Cd.ret (ae.ag (ae.ag (ae.af ?_)))));subst hvX;refine gp 4 k2 Tryz.underlying105 ?_;rw[hr];refine⟨ab,_,rfl,⟨pwq.an.put p9 (by omega),pwq.rd.below (p9.below (by omega) hlt2),pwq.bJ,pwq.eo⟩,S,hrep.mono (fun _ h=>h) (fun a ha=>World.cell?_of_block (p9.grown.block _ (hb _ ha).2 (fun e=>by injection e with e;have:=(hb _ ha).1;omega))),fun b hb'=> ?_⟩;obtain⟨h1,h2⟩:=hb b hb';have:=p9.size;exact⟨by omega,by omega⟩
  rw[if_neg c5] at hq;refine aj ?_;refine Zv (aa.cI (b:=BZ) rfl rfl rfl a3 (by decide)) ?_;refine Za ?_;refine iq 0 1 2 3 4 8 11 16 21 24 28 31 35 (Zt ?_);refine Cd.ak rfl (fun c6=> ?_) (fun c6=> ?_)
  ·rw[if_pos c6] at hq
   refine aj ?_;refine ZL Tryz.underlying189 k1 ?_;have hcd:=nb K hK E0 hE 10 2 p d _ (pw.to hle ab k99) hp1 (by unfold bm;omega) (by omega) (by rw[←hq];exact hne);rw[←hq] at hcd;have hs0:=ab.size;have hk2:=k2.lt;rcases Rs.dA hne with ⟨q,ov,hr⟩|⟨x,q,hr⟩
   ·rw[hr] at hcd
    refine Seq.cZ (Ze Tryz.func237) rfl hcd ?_;rintro e w8 ⟨hf,rfl,d6,hp6⟩;refine⟨_,rfl,fun a ha=>⟨ha.defers,?_⟩⟩;rw[hr];exact⟨ab.call hf,rfl,d6,hp6⟩
   rw[hr] at hcd;refine Zc (Ze Tryz.func237) (hcd) ?_;rintro e wq ⟨hf,v6,rfl,pwq,S,hrep,hb⟩;refine⟨_,rfl,?_⟩;replace ab:=ab.call hf;replace k2:=k2.fz hf (by omega);have hones:=hrep.aV;refine Seq.km rfl rfl rfl rfl (m:=4) (by kernel_rfl) hones.1 (jf hones.2) k2 (by rw[hones.1];exact Nat.le_refl _) rfl rfl ?_;intro w9 p9;have pw9:=p9.all hones.1 rfl;have pb9:=ab.put k2 p9 e2;have hlt2:=k2.lt;clear k2 ab;have k2:=pw9;have ab:=pb9;obtain⟨AX,cX,hvX⟩:=hrep.form;refine iq 0 1 2 3 4 8 11 16 21 24 28 31 35 (Zt (Cd.ret (ae.ag (ae.ag (ae.af ?_)))));subst hvX;refine gp 4 k2 Tryz.underlying105 ?_;rw[hr];refine⟨ab,_,rfl,⟨pwq.an.put p9 (by omega),pwq.rd.below (p9.below (by omega) hlt2),pwq.bJ,pwq.eo⟩,S,hrep.mono (fun _ h=>h) (fun a ha=>World.cell?_of_block (p9.grown.block _ (hb _ ha).2 (fun e=>by injection e with e;have:=(hb _ ha).1;omega))),fun b hb'=> ?_⟩;obtain⟨h1,h2⟩:=hb b hb';have:=p9.size;exact⟨by omega,by omega⟩
  rw[if_neg c6] at hq;refine aj ?_;refine Zv (aa.cI (b:=FQ) rfl rfl rfl a3 (by decide)) ?_;refine Za ?_;refine jO 0 1 2 3 4 8 11 16 21 24 28 31 35 39 (Zt ?_);refine Cd.ak rfl (fun c7=> ?_) (fun c7=> ?_)
  ·rw[if_pos c7] at hq
   refine aj ?_;refine ZL Tryz.underlying189 k1 ?_;have hcd:=nb K hK E0 hE 21 3 p d _ (pw.to hle ab k99) hp1 (by unfold bm;omega) (by omega) (by rw[←hq];exact hne);rw[←hq] at hcd;have hs0:=ab.size;have hk2:=k2.lt;rcases Rs.dA hne with ⟨q,ov,hr⟩|⟨x,q,hr⟩
   ·rw[hr] at hcd
    refine Seq.cZ (Ze Tryz.func237) rfl hcd ?_;rintro e w8 ⟨hf,rfl,d6,hp6⟩;refine⟨_,rfl,fun a ha=>⟨ha.defers,?_⟩⟩;rw[hr];exact⟨ab.call hf,rfl,d6,hp6⟩
   rw[hr] at hcd;refine Zc (Ze Tryz.func237) (hcd) ?_;rintro e wq ⟨hf,v6,rfl,pwq,S,hrep,hb⟩;refine⟨_,rfl,?_⟩;replace ab:=ab.call hf;replace k2:=k2.fz hf (by omega);have hones:=hrep.aV;refine Seq.km rfl rfl rfl rfl (m:=4) (by kernel_rfl) hones.1 (jf hones.2) k2 (by rw[hones.1];exact Nat.le_refl _) rfl rfl ?_;intro w9 p9;have pw9:=p9.all hones.1 rfl;have pb9:=ab.put k2 p9 e2;have hlt2:=k2.lt;clear k2 ab;have k2:=pw9;have ab:=pb9;obtain⟨AX,cX,hvX⟩:=hrep.form;refine jO 0 1 2 3 4 8 11 16 21 24 28 31 35 39 (Zt (Cd.ret (ae.ag (ae.ag (ae.af ?_)))));subst hvX;refine gp 4 k2 Tryz.underlying105 ?_;rw[hr];refine⟨ab,_,rfl,⟨pwq.an.put p9 (by omega),pwq.rd.below (p9.below (by omega) hlt2),pwq.bJ,pwq.eo⟩,S,hrep.mono (fun _ h=>h) (fun a ha=>World.cell?_of_block (p9.grown.block _ (hb _ ha).2 (fun e=>by injection e with e;have:=(hb _ ha).1;omega))),fun b hb'=> ?_⟩;obtain⟨h1,h2⟩:=hb b hb';have:=p9.size;exact⟨by omega,by omega⟩
  rw[if_neg c7] at hq;have hnm:=uc K hK p d _ (pw.to hle ab k99);refine aj ?_;refine ZL Tryz.underlying189 k1 ?_;rcases Rs.dA (vG K.ws p) with ⟨q,ov,hr⟩|⟨x,q,hr⟩
  ·rw[hr] at hnm hq
   refine Seq.cZ (Ze Tryz.func168) rfl hnm ?_;rintro e w8 ⟨hf,rfl,d6,hp6⟩;refine⟨_,rfl,fun a ha=>⟨ha.defers,?_⟩⟩;rw[hq];exact⟨ab.call hf,rfl,d6,hp6⟩
  have hx:x=(K.at_ p).text:=by
   unfold eA at hr;split at hr
   ·injection hr with hr;rw[←hr,b2]
   ·cases hr
  rw[hr] at hnm hq;replace hq:fm K.ws E0 p d= .ok (.mk 3 0 x []) q:=hq;refine Zc (Ze Tryz.func168) (hnm) ?_;rintro e wq ⟨hf,v6,rfl,pwq,rfl⟩;refine⟨_,rfl,?_⟩;replace ab:=ab.call hf;replace k2:=k2.fz hf (by omega);replace k99:=pwq.an;have loc:=Fz.refl wq.heap.size K.g wq;have hlt2:=k2.lt;refine Zv (aa.build rfl rfl (ny 3 _ _)) ?_;refine Zo 4 k2 ?_;intro w6 pw6;replace ab:=ab.put k2 pw6 e2;replace k99:=k99.put pw6 (by omega);replace k2:=pw6.an;refine jO 0 1 2 3 4 8 11 16 21 24 28 31 35 39 (Zt (Cd.ret (ae.ag (ae.ag (ae.af ?_)))));refine gp 4 k2 Tryz.underlying105 ?_;rw[hq];exact⟨ab,_,rfl,⟨k99,pwq.rd.below (pw6.below (by omega) hlt2),pwq.bJ,pwq.eo⟩,fun _=>False,cw.mk (args:=[]) (vs:=[]) rfl (by simp) (by unfold bm;omega) (by unfold bm;omega) (by rw[hx];exact a3) (by rw[hx];omega) (fun i e v h=>by simp at h) (fun h=>absurd rfl h),fun b hb=>hb.elim⟩
 rw[if_neg c3] at hq;refine aj ?_;refine bC ?_;refine Za ?_;refine dq 0 1 2 3 4 8 11 16 21 43 (Zt ?_);refine Cd.ak rfl (fun c8=> ?_) (fun c8=> ?_)
 ·rw[if_pos c8] at hq
  refine aj ?_;refine ZL Tryz.underlying189 k1 ?_;refine Zv (aa.makeFunc (v:= .func (.func 238) #[] #[.pointer (some ⟨g1,0,none⟩), .pointer (some ⟨g4,0,none⟩)]) rfl (show jn _ _=some [] from rfl) (show jn _ _=some [.pointer (some ⟨g1,0,none⟩), .pointer (some ⟨g4,0,none⟩)] from rfl) rfl) ?_;refine Seq.slice (vs:=[_]) (s:=1) rfl rfl rfl Tryz.underlying225 (by kernel_rfl) (eF) (by omega) (by omega) ⟨rfl,trivial⟩ rfl rfl rfl ?_;intro g47 w6 n47;have e47:=Nat.le_trans ab.size n47.ge;have l47:=Nat.lt_of_lt_of_le k4.lt n47.ge;replace ab:=ab.step n47.below;replace k99:=k99.step n47.below;replace k1:=k1.step n47.below;replace k2:=k2.step n47.below;replace k3:=k3.step n47.below;replace k4:=k4.step n47.below;have k47:=n47.an;have pw8:=pw.to hle ab k99;obtain⟨wr,hwr⟩:∃wr,wr=w6:=⟨_,rfl⟩;rw[←hwr] at pw8 ab k1 k2 k4 k47⊢;obtain⟨R,hR⟩:∃R,R=aT K.ws [E0] p d:=⟨_,rfl⟩;rw[←hR] at hq;have hneR:R≠ .out:=Rs.fD (by rw[←hq];exact hne);have hgg4:K.g<g4:=by omega
  have hwi:=j2 K hK g4 [E0] [(238,[Value.pointer (some ⟨g1,0,none⟩),Value.pointer (some ⟨g4,0,none⟩)])] (some ⟨g47,0,none⟩) 1
   (fun xs W=>Kp wr W∧zD g4 g4 xs W) p d wr pw8 (Nat.le_of_lt k4.lt) rfl (by simp)
   ⟨Kp.refl wr,_,k4,rfl,fun x hx=>by simp at hx⟩
   (fun xs W W' p d hM hp hf=>⟨hM.1.fz hp.an hf,hM.2.fz hf hgg4 (Nat.le_refl _)⟩)
   (fun xs W j f cp hM hj=>by
    match j,hj with
    |0,hj=>
     simp at hj;obtain⟨e1,e2⟩:=hj;subst e1 e2;refine⟨_,rfl,?_⟩;have hb:=(hM.1.an k47).cell 0;exact hb
    |j+1,hj=>simp at hj)
   (fun j f cp hj=>by
    match j,hj with
    |0,hj=>
     simp at hj;obtain⟨e1,e2⟩:=hj;subst e1;exact Dt
    |j+1,hj=>simp at hj)
   (fun j f cp one hj ho xs W p' hxl hpw hW hM hne1=>by
    match j,hj,ho,hxl with
    |0,hj,ho,hxl=>
     simp at hj ho;obtain⟨e1,e2⟩:=hj;subst e1 e2 ho;have hx0:xs=[]:=List.eq_nil_of_length_eq_zero hxl;subst hx0;exact(AA K hK g4 g1 g4 (d+1) p' E0 W hpw hgg4 (Nat.le_refl _) hW (hM.1.an k1) hM.2 (fun W' h1 _=>hE p' (d+1) W' h1 hne1) hne1).mono fun e W' hq=>hq.mono fun a v W' h=>⟨hM.1.trans h.1,h.2⟩
    |j+1,hj,_,_=>simp at hj)
   (by rw[←hR];exact hneR)
  rw[←hR] at hwi;rcases Rs.dA hneR with ⟨q,ov,hr⟩|⟨xs,q,hr⟩
  ·rw[hr] at hwi hq
   refine Seq.cZ (Ze Tryz.func166) rfl hwi ?_;rintro e w8 ⟨hf,rfl,d6,hp6⟩;refine⟨_,rfl,fun a ha=>⟨ha.defers,?_⟩⟩;rw[hq];exact⟨ab.trans (hf.less (by omega)),rfl,d6,hp6⟩
  have hxl:=eE (hR.symm.trans hr)
  obtain⟨x,rfl⟩:∃x,xs=[x]:=by
   match xs,hxl with
   | [x],_=>exact⟨x,rfl⟩
  rw[hr] at hwi hq;replace hq:fm K.ws E0 p d= .ok x q:=hq;refine Zc (Ze Tryz.func166) (hwi) ?_;rintro e wq ⟨hf,v6,rfl,pwq,kpq,cs,k4q,hcs4,hx⟩;refine⟨_,rfl,?_⟩;obtain⟨S,v,rfl,hrep,hb⟩:=hx x rfl
  have k2q:aH wq g2 105 #[.int .i64 0, .int .i64 0, .string {data:= #[]}, .slice none 0 0]:=by
   have h2:aH wr g2 105 #[.int .i64 0, .int .i64 0, .string {data:= #[]}, .slice none 0 0]:=k2;have h1:=hf.block g2 (by omega) (by omega);unfold aH at h2⊢;rw[h1];exact h2
  have belq:Fz w.heap.size K.g w wq:=ab.trans (hf.less (by omega));clear ab k1 k2 k3 k4 k47 k99;have ab:=belq;have k2:=k2q;obtain⟨AX,cX,hvX⟩:=hrep.form;subst hvX;have k4:=k4q;have hlt2:=k2.lt;refine dq 0 1 2 3 4 8 11 16 21 43 (aB ?_);refine ZW 4 Tryz.underlying105 k4 ?_;refine Zo 4 k2 ?_;intro w7 pw7;replace ab:=ab.put k2 pw7 e2;replace k4:=k4.put pw7 (by omega);replace k2:=pw7.an;refine dq 0 1 2 3 4 8 11 16 21 43 (Zt (Cd.ret (ae.ag (ae.af ?_))));refine gp 4 k2 Tryz.underlying105 ?_;rw[hq];refine⟨ab,_,rfl,⟨pwq.an.put pw7 (by omega),pwq.rd.below (pw7.below (by omega) hlt2),pwq.bJ,pwq.eo⟩,S,hrep.mono (fun _ h=>h) (fun a ha=>World.cell?_of_block (pw7.grown.block _ (hb _ ha).2.1 (fun e=>by injection e with e;have:=(hb _ ha).1;omega))),fun b hb'=> ?_⟩;obtain⟨h1,h2,h3⟩:=hb b hb';have:=pw7.size;exact⟨by omega,by omega⟩
 rw[if_neg c8] at hq;refine Zr ?_;refine ZL Tryz.underlying189 k1 ?_;refine Seq.cZ (Ze Tryz.func165) rfl (jL K.g _) ?_;rintro e w6 ⟨rfl,hb6⟩;refine⟨_,rfl,fun a ha=>⟨ha.defers,?_⟩⟩;rw[hq];exact⟨ab.step hb6,rfl,d,pw.to hle (ab.step hb6) (k99.step hb6)⟩
theorem iy (a:Int)(g:Nat)(w:World):(Instr.build 105 #[(0, .int .i64 a),(3, .slice (some ⟨g,0,none⟩) 1 1)]).run Tryz.prog w= .ok (.agg #[.int .i64 a, .int .i64 0, .string (strOf []), .slice (some ⟨g,0,none⟩) 1 1]) w:=by
 have hu:=Tryz.underlying105
 go_simp
 rfl
structure AU (lo hi:Nat)(S:Nat→Prop)(x:Ex)(v:Value)(W:World):Prop where
 rep:cw W S x v
 bd:∀b,S b→lo≤b∧b<hi
 eX:hi≤W.heap.size
theorem AU.step {lo hi:Nat}{S:Nat→Prop}{x:Ex}{v:Value}{W W':World}(r:AU lo hi S x v W)(h:Below W.heap.size W W'):AU lo hi S x v W':=
 ⟨r.rep.mono (fun _ h=>h) (fun a ha=>h.cell (Nat.lt_of_lt_of_le (r.bd _ ha).2 r.eX)),r.bd,Nat.le_trans r.eX h.size⟩
theorem AU.put {lo hi g:Nat}{T:TypeId}{cur cs:Array Value}{S:Nat→Prop}{x:Ex}{v:Value}{W W':World}(r:AU lo hi S x v W)(_k:aH W g T cur)(p:lu W W' g T cs){E:Prop}(_e:E)(hne:g<lo∨hi≤g:=by omega):AU lo hi S x v W':=
 ⟨r.rep.mono (fun _ h=>h) (fun a ha=>World.cell?_of_block (p.grown.block _ (Nat.lt_of_lt_of_le (r.bd _ ha).2 r.eX) (fun e=>by injection e with e;have:=r.bd _ ha;omega))),r.bd,Nat.le_trans r.eX (Nat.le_of_eq p.size.symm)⟩
def D9 (K:Ctx)(S0:Nat→Nat→Rs Ex):Prop:=∀p d W,PW K W p d false→S0 p d≠ .out→Calls Tryz.prog 196 #[.pointer (some ⟨K.g,0,none⟩)] W (PR K W d (S0 p d) (pb W))
theorem Af (K:Ctx)(hK:K.Ok)(S0 E0:Nat→Nat→Rs Ex)(hS:D9 K S0)(hE:Et K E0)(p d:Nat)(w:World)(pw:PW K w p d false)(hne:bD K.ws S0 E0 p d≠ .out):
  Calls Tryz.prog 196 #[.pointer (some ⟨K.g,0,none⟩)] w (PR K w d (bD K.ws S0 E0 p d) (pb w)):=by
 have ab:=Fz.refl w.heap.size K.g w;have k99:=pw.an;have e99:K.g=K.g:=rfl;have hlt:=pw.an.lt;have hlen:=hK.len;have hle:=hK.le;have hpl:=pw.bJ;have his:=fun(s:List Nat) (hs:∀x∈s,x<256) W h=>A7 K hK p d false 0 s W h hs;have hq:bD K.ws S0 E0 p d=if rW K.ws p [33]=true then dz S0 19 p d else if rW K.ws p [45]=true then dz S0 20 p d else fm K.ws E0 p d:=rfl
 have hp:∀s,rW K.ws p s=true→p+1≤K.ws.length:=fun s hk=>by
  rcases Nat.lt_or_ge p K.ws.length with h|h
  ·exact h
  ·unfold rW at hk
   have h1:dn K.ws p=⟨-1,[],0,0⟩:=by unfold dn;rw[List.getD_eq_getElem?_getD,List.getElem?_eq_none h];rfl
   rw[h1] at hk;simp at hk
 refine Zs 35 Tryz.func196 ?_;refine aj ?_;refine Zl az ?_;intro g2 w1 n2;have e2:=Nat.le_trans ab.size n2.ge;have l2:=Nat.lt_of_lt_of_le k99.lt n2.ge;replace ab:=ab.step n2.below;replace k99:=k99.step n2.below;have k2:=n2.an;refine dF 0 2 (aB ?_);refine Za ?_;refine bn 0 2 3 (aI (Cd.block (aj ?_)));refine Zm ?_;refine Zc (Ze Tryz.func221) (his [33] (by decide) _ (pw.to hle ab k99)) ?_;rintro e w5 ⟨rfl,hb5⟩;refine⟨_,rfl,?_⟩;replace ab:=ab.step hb5;replace k99:=k99.step hb5;replace k2:=k2.step hb5;refine Za ?_;refine aQ 0 2 3 7 (Zt ?_);refine Cd.cond rfl (fun c1=> ?_) (fun c1=> ?_)
 ·have c1:rW K.ws p [33]=true:=c1
  have hp1:=hp _ c1;rw[if_pos c1] at hq;have hen:=nY K hK p d _ (pw.to hle ab k99);refine Zr ?_;refine Za ?_;refine aQ 0 2 3 7 (ae.ah (aB ?_));refine Zm ?_;rcases Rs.dA (oK p d) with ⟨p2,o2,hr2⟩|⟨u2,p2,hr2⟩
  ·unfold dz at hq
   rw[hr2] at hen hq;refine Seq.cZ (Ze Tryz.func209) rfl hen ?_;rintro e w6 ⟨hf,rfl,d6,hp6⟩;refine⟨_,rfl,fun a ha=>⟨ha.defers,?_⟩⟩;rw[hq];exact⟨ab.call hf,rfl,d6,hp6⟩
  have hp2:p2=p:=by
   unfold db at hr2;split at hr2
   ·cases hr2
   ·injection hr2 with _ h;exact h.symm
  subst hp2;unfold dz at hq;rw[hr2] at hen hq;replace hq:bD K.ws S0 E0 p2 d=(S0 (p2+1) (d+1)).bind fun x p=> .ok (.mk 19 0 [] [x]) p:=hq;have hne1:S0 (p2+1) (d+1)≠ .out:=Rs.fD (by rw[←hq];exact hne);refine Zc (Ze Tryz.func209) (hen) ?_;rintro e we ⟨hfe,v6,rfl,pwe,-⟩;refine⟨_,rfl,?_⟩;replace ab:=ab.call hfe;replace k2:=k2.fz hfe (by omega);replace k99:=pwe.an;have loc:=Fz.refl we.heap.size K.g we;refine aQ 0 2 3 7 (aB ?_);refine Zm ?_;refine Zv (aa.nilCheck rfl rfl) ?_;refine Zf 1 Tryz.underlying219 ?_;refine ZL Tryz.underlying3 k99 ?_;refine cG ?_;refine Zv (aa.nilCheck rfl rfl) ?_;refine Zf 1 Tryz.underlying219 ?_;refine Zq k99 ?_;intro w2 pw2;replace ab:=ab.put k99 pw2 e99;replace k2:=k2.put pw2 (by omega);replace loc:=loc.put k99 pw2 e99;replace k99:=pw2.an;refine aQ 0 2 3 7 (aB ?_);refine Zm ?_;have pwn:=pwe.next hle hp1 loc k99;have hun:=hS (p2+1) (d+1) _ pwn hne1;rcases Rs.dA hne1 with ⟨q,ov,hr⟩|⟨x,q,hr⟩
  ·rw[hr] at hun hq
   refine Seq.cZ (Ze Tryz.func196) rfl hun ?_;rintro e w6 ⟨hf,rfl,d6,hp6⟩;refine⟨_,rfl,fun a ha=>⟨ha.defers,?_⟩⟩;rw[hq];exact⟨ab.call hf,rfl,d6,hp6⟩
  rw[hr] at hun hq;replace hq:bD K.ws S0 E0 p2 d= .ok (.mk 19 0 [] [x]) q:=hq;have hk2:=k2.lt;have hsb:=ab.size;refine Zc (Ze Tryz.func196) (hun) ?_;rintro e wq ⟨hf,v6,rfl,pwq,S,hrep,hb⟩;refine⟨_,rfl,?_⟩;replace ab:=ab.call hf;replace k2:=k2.fz hf (by omega);replace k99:=pwq.an;have hones:=hrep.aV;have hsf:=hf.size;have rs:AU _ wq.heap.size S x v6 wq:=⟨hrep,hb,Nat.le_refl _⟩;clear loc;obtain⟨AX,cX,hvX⟩:=hrep.form;subst hvX;have hd64:=pwq.deep;refine Zl az ?_;intro g4 w3 n4;have q4:=n4.ge;have e4:=Nat.le_trans ab.size n4.ge;have l4:=Nat.lt_of_lt_of_le k2.lt n4.ge;replace ab:=ab.step n4.below;replace k99:=k99.step n4.below;replace k2:=k2.step n4.below;replace rs:=rs.step n4.below;have k4:=n4.an;refine Zo 4 k4 ?_;intro w4 pw4;replace ab:=ab.put k4 pw4 e4;replace k99:=k99.put pw4 (by omega);replace k2:=k2.put pw4 (by omega);replace rs:=rs.put k4 pw4 e4;replace k4:=pw4.an;refine aO 0 2 3 4 7 (aB ?_);refine Zm ?_;refine Zv (aa.nilCheck rfl rfl) ?_;refine Zf 2 Tryz.underlying219 ?_;refine ZL Tryz.underlying3 k99 ?_;refine mC ?_;refine Zv (aa.nilCheck rfl rfl) ?_;refine Zf 2 Tryz.underlying219 ?_;refine Zq k99 ?_;intro w5 pw5;replace ab:=ab.put k99 pw5 e99;replace k2:=k2.put pw5 (by omega);replace rs:=rs.put k99 pw5 e99;replace k4:=k4.put pw5 (by omega);replace k99:=pw5.an;refine aO 0 2 3 4 7 (aB ?_);refine Zm ?_;refine ZW 4 Tryz.underlying105 k4 ?_;refine Seq.slice (vs:=[_]) (s:=4) rfl rfl rfl Tryz.underlying68 (by kernel_rfl) (az) (by omega) (by omega) ⟨rfl,trivial⟩ rfl rfl rfl ?_;intro g33 w6 n33;have q33:=n33.ge;have e33:=Nat.le_trans ab.size n33.ge;have l33:=Nat.lt_of_lt_of_le k4.lt n33.ge;replace ab:=ab.step n33.below;replace k99:=k99.step n33.below;replace k2:=k2.step n33.below;replace rs:=rs.step n33.below;replace k4:=k4.step n33.below;have k33:=n33.an;refine Zv (aa.build rfl rfl (iy 19 _ _)) ?_;refine Zo 4 k2 ?_;intro w7 pw7;replace ab:=ab.put k2 pw7 e2;replace k99:=k99.put pw7 (by omega);replace rs:=rs.put k2 pw7 e2;replace k4:=k4.put pw7 (by omega);replace k33:=k33.put pw7 (by omega);replace k2:=pw7.an;refine aO 0 2 3 4 7 (Zt (Cd.ret ?_));refine gp 4 k2 Tryz.underlying105 ?_;have hcast:((d+1:Nat):Int)-1=(d:Int):=by omega
  rw[hcast] at k99;rw[hq];have hadd:(⟨g33,0,none⟩:Addr).add=fun j=>⟨g33,j,none⟩:=by funext j;unfold Addr.add;split<;>simp_all
  refine⟨ab,_,rfl,⟨k99,pw.rd.below (ab.below (by omega) hle),pwq.bJ, .inl (by omega)⟩,(fun b=>S b∨b=g33),cw.mk (args:=[x]) (vs:=[.agg #[.int .i64 x.op, .int .i64 x.n, .string (strOf x.name), .slice AX x.args.length cX]]) rfl (by simp) (by unfold bm;omega) (by unfold bm;omega) (by simp) (by simp) (fun i e v h1 h2=> ?_) (fun _=>⟨⟨g33,0,none⟩,rfl, .inr rfl,fun j u hu=> ?_⟩),fun b hb'=> ?_⟩
  ·match i,h1,h2 with
   |0,h1,h2=>
    simp at h1 h2;subst h1 h2;exact rs.rep.mono (fun _ h=> .inl h) (fun _ _=>rfl)
   |i+1,h1,_=>simp at h1
  ·rw[hadd,k33.cell j]
   have hu2:(aN [Value.agg #[.int .i64 x.op, .int .i64 x.n, .string (strOf x.name), .slice AX x.args.length cX]]).toArray[j]? =some u:=by simpa using hu
   exact hu2
  ·rcases hb' with hb'|rfl
   ·obtain⟨h1,h2⟩:=hb b hb'
    have:=rs.eX;exact⟨by omega,by omega⟩
   ·exact⟨by omega,k33.lt⟩
 have c1:rW K.ws p [33]=false:=c1;rw[if_neg (by rw[c1];simp)] at hq;refine aj ?_;refine Zm ?_;refine Zc (Ze Tryz.func221) (his [45] (by decide) _ (pw.to hle ab k99)) ?_;rintro e w6 ⟨rfl,hb6⟩;refine⟨_,rfl,?_⟩;replace ab:=ab.step hb6;replace k99:=k99.step hb6;replace k2:=k2.step hb6;refine Za ?_;refine aO 0 2 3 7 10 (Zt ?_);refine Cd.cond rfl (fun c2=> ?_) (fun c2=> ?_)
 ·have c2:rW K.ws p [45]=true:=c2
  have hp1:=hp _ c2;rw[if_pos c2] at hq;have hen:=nY K hK p d _ (pw.to hle ab k99);refine Zr ?_;refine Za ?_;refine aO 0 2 3 7 10 (ae.ah (aB ?_));refine Zm ?_;rcases Rs.dA (oK p d) with ⟨p2,o2,hr2⟩|⟨u2,p2,hr2⟩
  ·unfold dz at hq
   rw[hr2] at hen hq;refine Seq.cZ (Ze Tryz.func209) rfl hen ?_;rintro e w6 ⟨hf,rfl,d6,hp6⟩;refine⟨_,rfl,fun a ha=>⟨ha.defers,?_⟩⟩;rw[hq];exact⟨ab.call hf,rfl,d6,hp6⟩
  have hp2:p2=p:=by
   unfold db at hr2;split at hr2
   ·cases hr2
   ·injection hr2 with _ h;exact h.symm
  subst hp2;unfold dz at hq;rw[hr2] at hen hq;replace hq:bD K.ws S0 E0 p2 d=(S0 (p2+1) (d+1)).bind fun x p=> .ok (.mk 20 0 [] [x]) p:=hq;have hne1:S0 (p2+1) (d+1)≠ .out:=Rs.fD (by rw[←hq];exact hne);refine Zc (Ze Tryz.func209) (hen) ?_;rintro e we ⟨hfe,v6,rfl,pwe,-⟩;refine⟨_,rfl,?_⟩;replace ab:=ab.call hfe;replace k2:=k2.fz hfe (by omega);replace k99:=pwe.an;have loc:=Fz.refl we.heap.size K.g we;refine aO 0 2 3 7 10 (aB ?_);refine Zm ?_;refine Zv (aa.nilCheck rfl rfl) ?_;refine Zf 1 Tryz.underlying219 ?_;refine ZL Tryz.underlying3 k99 ?_;refine cG ?_;refine Zv (aa.nilCheck rfl rfl) ?_;refine Zf 1 Tryz.underlying219 ?_;refine Zq k99 ?_;intro w2 pw2;replace ab:=ab.put k99 pw2 e99;replace k2:=k2.put pw2 (by omega);replace loc:=loc.put k99 pw2 e99;replace k99:=pw2.an;refine aO 0 2 3 7 10 (aB ?_);refine Zm ?_;have pwn:=pwe.next hle hp1 loc k99;have hun:=hS (p2+1) (d+1) _ pwn hne1;rcases Rs.dA hne1 with ⟨q,ov,hr⟩|⟨x,q,hr⟩
  ·rw[hr] at hun hq
   refine Seq.cZ (Ze Tryz.func196) rfl hun ?_;rintro e w6 ⟨hf,rfl,d6,hp6⟩;refine⟨_,rfl,fun a ha=>⟨ha.defers,?_⟩⟩;rw[hq];exact⟨ab.call hf,rfl,d6,hp6⟩
  rw[hr] at hun hq;replace hq:bD K.ws S0 E0 p2 d= .ok (.mk 20 0 [] [x]) q:=hq;have hk2:=k2.lt;have hsb:=ab.size;refine Zc (Ze Tryz.func196) (hun) ?_;rintro e wq ⟨hf,v6,rfl,pwq,S,hrep,hb⟩;refine⟨_,rfl,?_⟩;replace ab:=ab.call hf;replace k2:=k2.fz hf (by omega);replace k99:=pwq.an;have hones:=hrep.aV;have hsf:=hf.size;have rs:AU _ wq.heap.size S x v6 wq:=⟨hrep,hb,Nat.le_refl _⟩;clear loc;obtain⟨AX,cX,hvX⟩:=hrep.form;subst hvX;have hd64:=pwq.deep;refine Zl az ?_;intro g4 w3 n4;have q4:=n4.ge;have e4:=Nat.le_trans ab.size n4.ge;have l4:=Nat.lt_of_lt_of_le k2.lt n4.ge;replace ab:=ab.step n4.below;replace k99:=k99.step n4.below;replace k2:=k2.step n4.below;replace rs:=rs.step n4.below;have k4:=n4.an;refine Zo 4 k4 ?_;intro w4 pw4;replace ab:=ab.put k4 pw4 e4;replace k99:=k99.put pw4 (by omega);replace k2:=k2.put pw4 (by omega);replace rs:=rs.put k4 pw4 e4;replace k4:=pw4.an;refine aY 0 2 3 4 7 10 (aB ?_);refine Zm ?_;refine Zv (aa.nilCheck rfl rfl) ?_;refine Zf 2 Tryz.underlying219 ?_;refine ZL Tryz.underlying3 k99 ?_;refine mC ?_;refine Zv (aa.nilCheck rfl rfl) ?_;refine Zf 2 Tryz.underlying219 ?_;refine Zq k99 ?_;intro w5 pw5;replace ab:=ab.put k99 pw5 e99;replace k2:=k2.put pw5 (by omega);replace rs:=rs.put k99 pw5 e99;replace k4:=k4.put pw5 (by omega);replace k99:=pw5.an;refine aY 0 2 3 4 7 10 (aB ?_);refine Zm ?_;refine ZW 4 Tryz.underlying105 k4 ?_;refine Seq.slice (vs:=[_]) (s:=4) rfl rfl rfl Tryz.underlying68 (by kernel_rfl) (az) (by omega) (by omega) ⟨rfl,trivial⟩ rfl rfl rfl ?_;intro g33 w6 n33;have q33:=n33.ge;have e33:=Nat.le_trans ab.size n33.ge;have l33:=Nat.lt_of_lt_of_le k4.lt n33.ge;replace ab:=ab.step n33.below;replace k99:=k99.step n33.below;replace k2:=k2.step n33.below;replace rs:=rs.step n33.below;replace k4:=k4.step n33.below;have k33:=n33.an;refine Zv (aa.build rfl rfl (iy 20 _ _)) ?_;refine Zo 4 k2 ?_;intro w7 pw7;replace ab:=ab.put k2 pw7 e2;replace k99:=k99.put pw7 (by omega);replace rs:=rs.put k2 pw7 e2;replace k4:=k4.put pw7 (by omega);replace k33:=k33.put pw7 (by omega);replace k2:=pw7.an;refine aY 0 2 3 4 7 10 (Zt (Cd.ret ?_));refine gp 4 k2 Tryz.underlying105 ?_;have hcast:((d+1:Nat):Int)-1=(d:Int):=by omega
  rw[hcast] at k99;rw[hq];have hadd:(⟨g33,0,none⟩:Addr).add=fun j=>⟨g33,j,none⟩:=by funext j;unfold Addr.add;split<;>simp_all
  refine⟨ab,_,rfl,⟨k99,pw.rd.below (ab.below (by omega) hle),pwq.bJ, .inl (by omega)⟩,(fun b=>S b∨b=g33),cw.mk (args:=[x]) (vs:=[.agg #[.int .i64 x.op, .int .i64 x.n, .string (strOf x.name), .slice AX x.args.length cX]]) rfl (by simp) (by unfold bm;omega) (by unfold bm;omega) (by simp) (by simp) (fun i e v h1 h2=> ?_) (fun _=>⟨⟨g33,0,none⟩,rfl, .inr rfl,fun j u hu=> ?_⟩),fun b hb'=> ?_⟩
  ·match i,h1,h2 with
   |0,h1,h2=>
    simp at h1 h2;subst h1 h2;exact rs.rep.mono (fun _ h=> .inl h) (fun _ _=>rfl)
   |i+1,h1,_=>simp at h1
  ·rw[hadd,k33.cell j]
   have hu2:(aN [Value.agg #[.int .i64 x.op, .int .i64 x.n, .string (strOf x.name), .slice AX x.args.length cX]]).toArray[j]? =some u:=by simpa using hu
   exact hu2
  ·rcases hb' with hb'|rfl
   ·obtain⟨h1,h2⟩:=hb b hb'
    have:=rs.eX;exact⟨by omega,by omega⟩
   ·exact⟨by omega,k33.lt⟩
 have c2:rW K.ws p [45]=false:=c2;rw[if_neg (by rw[c2];simp)] at hq;rw[hq] at hne;have hat:=C7 K hK E0 hE p d _ (pw.to hle ab k99) hne;refine aj ?_;refine Zm ?_;rcases Rs.dA hne with ⟨q,ov,hr⟩|⟨x,q,hr⟩
 ·rw[hr] at hat
  refine Seq.cZ (Ze Tryz.func222) rfl hat ?_;rintro e w8 ⟨hf,rfl,d6,hp6⟩;refine⟨_,rfl,fun a ha=>⟨ha.defers,?_⟩⟩;rw[hq,hr];exact⟨ab.call hf,rfl,d6,hp6⟩
 rw[hr] at hat;have hk2:=k2.lt;have hsb:=ab.size;refine Zc (Ze Tryz.func222) (hat) ?_;rintro e wq ⟨hf,v6,rfl,pwq,S,hrep,hb⟩;refine⟨_,rfl,?_⟩;replace ab:=ab.call hf;replace k2:=k2.fz hf (by omega);obtain⟨AX,cX,hvX⟩:=hrep.form;subst hvX;have hlt2:=k2.lt;refine Zo 4 k2 ?_;intro w2 pw2;replace ab:=ab.put k2 pw2 e2;replace k2:=pw2.an;refine aO 0 2 3 7 10 (Zt (Cd.ret (ae.ag (ae.af ?_))));refine gp 4 k2 Tryz.underlying105 ?_;rw[hq,hr];refine⟨ab,_,rfl,⟨pwq.an.put pw2 (by omega),pwq.rd.below (pw2.below (by omega) hlt2),pwq.bJ,pwq.eo⟩,S,hrep.mono (fun _ h=>h) (fun a ha=>World.cell?_of_block (pw2.grown.block _ (hb _ ha).2 (fun e=>by injection e with e;have:=(hb _ ha).1;omega))),fun b hb'=> ?_⟩;obtain⟨h1,h2⟩:=hb b hb';have:=pw2.size;exact⟨by omega,by omega⟩
def Av (K:Ctx)(n lvl:Nat):Prop:=∀p d W,PW K W p d false→(bH K.ws n).E lvl p d≠ .out→Calls Tryz.prog 151 #[.pointer (some ⟨K.g,0,none⟩), .int .i64 (lvl:Int)] W (PR K W d ((bH K.ws n).E lvl p d) (pb W))
theorem Cf (K:Ctx)(hK:K.Ok)(n:Nat)(hS:D9 K (bH K.ws (n+1)).S):Av K (n+1) 5:=by
 intro p d w pw hne;have he:(bH K.ws (n+1)).E 5 p d=(bH K.ws (n+1)).S p d:=rfl;rw[he] at hne⊢;have ab:=Fz.refl w.heap.size K.g w;have k99:=pw.an;have e99:K.g=K.g:=rfl;have hlt:=pw.an.lt;have hle:=hK.le;refine Zs 66 Tryz.func151 ?_;refine aj ?_;refine Zl az ?_;intro g4 w1 n4;have e4:=Nat.le_trans ab.size n4.ge;have l4:=Nat.lt_of_lt_of_le k99.lt n4.ge;replace ab:=ab.step n4.below;replace k99:=k99.step n4.below;have k4:=n4.an;refine bn 0 1 4 (aB ?_);refine Zc (Ze Tryz.func195) (qJ _) ?_;rintro e w5 ⟨gl,rfl,hb5,-⟩;refine⟨_,rfl,?_⟩;replace ab:=ab.step hb5;replace k99:=k99.step hb5;replace k4:=k4.step hb5;refine Za ?_;refine aQ 0 1 4 5 (aI (aj ?_));refine Zm ?_;refine Zm ?_;refine Zv (aa.len rfl rfl Tryz.underlying244) ?_;refine bC ?_;refine aO 0 1 4 5 13 (Zt ?_);refine Cd.aU rfl (by decide) ?_;have hun:=hS p d _ (pw.to hle ab k99) hne;refine aj ?_;refine Zm ?_;rcases Rs.dA hne with ⟨q,ov,hr⟩|⟨x,q,hr⟩
 ·rw[hr] at hun
  refine Seq.cZ (Ze Tryz.func196) rfl hun ?_;rintro e w8 ⟨hf,rfl,d6,hp6⟩;refine⟨_,rfl,fun a ha=>⟨ha.defers,?_⟩⟩;rw[hr];exact⟨ab.call hf,rfl,d6,hp6⟩
 rw[hr] at hun⊢;have hk4:=k4.lt;have hsb:=ab.size;refine Zc (Ze Tryz.func196) (hun) ?_;rintro e wq ⟨hf,v6,rfl,pwq,S,hrep,hb⟩;refine⟨_,rfl,?_⟩;replace ab:=ab.call hf;replace k4:=k4.fz hf (by omega);obtain⟨AX,cX,hvX⟩:=hrep.form;subst hvX;have hlt2:=k4.lt;refine Zo 4 k4 ?_;intro w2 pw2;replace ab:=ab.put k4 pw2 e4;replace k4:=pw2.an;refine aO 0 1 4 5 13 (Zt (Cd.ret (ae.af ?_)));refine gp 4 k4 Tryz.underlying105 ?_;refine⟨ab,_,rfl,⟨pwq.an.put pw2 (by omega),pwq.rd.below (pw2.below (by omega) hlt2),pwq.bJ,pwq.eo⟩,S,hrep.mono (fun _ h=>h) (fun a ha=>World.cell?_of_block (pw2.grown.block _ (hb _ ha).2 (fun e=>by injection e with e;have:=(hb _ ha).1;omega))),fun b hb'=> ?_⟩;obtain⟨h1,h2⟩:=hb b hb';have:=pw2.size;exact⟨by omega,by omega⟩
theorem Al {ws:List Wd}{lvl p:Nat}(h:(dn ws p).kind≠0∨tn (cK lvl) (dn ws p).text<0):opAt ws lvl p=none:=by
 unfold opAt;split
 ·rfl
 ·rename_i hk
  rcases h with h|h
  ·exact absurd h hk
  ·unfold tn at h
   split at h
   ·omega
   ·rename_i hm
    rw[if_neg hm]
theorem zh {ws:List Wd}{lvl p:Nat}(h1:(dn ws p).kind=0)(h2:¬tn (cK lvl) (dn ws p).text<0):∃(i:Nat) (op:Int),tn (cK lvl) (dn ws p).text=(i:Int)∧i<(iu lvl).length∧(iu lvl)[i]? =some op∧opAt ws lvl p=some op∧bm op:=by
 have hlen:∀lvl,(cK lvl).length=(iu lvl).length:=fun lvl=>by
  unfold cK iu;split<;>rfl
 unfold tn at h2⊢;split at h2
 ·rename_i hm
  rw[if_pos hm];have hi:=List.idxOf_lt_length_of_mem hm;rw[hlen] at hi;obtain⟨op,hop⟩:∃op,(iu lvl)[(cK lvl).idxOf (dn ws p).text]? =some op:=⟨_,List.getElem?_eq_getElem hi⟩;refine⟨_,op,rfl,hi,hop,?_,?_⟩
  ·unfold opAt
   rw[if_neg (by simp[h1]),if_pos hm,hop]
  ·have hm2:=List.mem_of_getElem? hop
   have:∀lvl,∀x∈iu lvl,bm x:=fun lvl=>by
    unfold iu;split<;>simp[bm]
   exact this lvl op hm2
 ·omega
def fa (lo hi ex:Nat)(x:Ex)(v:Value)(W:World):Prop:=hi≤W.heap.size∧∃S:Nat→Prop,cw W S x v∧∀b,S b→lo<b∧b<hi∧b≠ex
theorem fa.eQ {lo hi ex:Nat}{x:Ex}{v:Value}{W W':World}(m:fa lo hi ex x v W)(hs:W.heap.size≤W'.heap.size)(hb:∀b,lo<b→b<hi→b≠ex→W'.heap[b]? =W.heap[b]?):fa lo hi ex x v W':=by
 obtain⟨h0,S,h1,h2⟩:=m;exact⟨Nat.le_trans h0 hs,S,h1.mono (fun _ h=>h) (fun a ha=>World.cell?_of_block (hb _ (h2 _ ha).1 (h2 _ ha).2.1 (h2 _ ha).2.2)),h2⟩
theorem fa.step {lo hi ex:Nat}{x:Ex}{v:Value}{W W':World}(m:fa lo hi ex x v W)(h:Below W.heap.size W W'):fa lo hi ex x v W':=m.eQ h.size fun b _ h2 _=>h.block b (Nat.lt_of_lt_of_le h2 m.1)
theorem fa.fz {lo hi ex g:Nat}{x:Ex}{v:Value}{W W':World}(m:fa lo hi ex x v W)(h:Fz W.heap.size g W W')(hg:g≤lo):fa lo hi ex x v W':=m.eQ h.size fun b h1 h2 _=>h.block b (Nat.lt_of_lt_of_le h2 m.1) (by omega)
theorem fa.put {lo hi ex g:Nat}{x:Ex}{v:Value}{T:TypeId}{cur cs:Array Value}{W W':World}{E:Prop}(m:fa lo hi ex x v W)(_k:aH W g T cur)(p:lu W W' g T cs)(_e:E)(hg:g≤lo∨g=ex∨hi≤g:=by omega):fa lo hi ex x v W':=
 m.eQ (Nat.le_of_eq p.size.symm) fun b h1 h2 h3=>p.grown.block b (Nat.lt_of_lt_of_le h2 m.1) (fun e=>by injection e with e;omega)
theorem fa.but {lo hi ex g:Nat}{x:Ex}{v:Value}{W:World}(m:fa lo hi ex x v W)(hg:hi≤g):fa lo hi g x v W:=by
 obtain⟨h0,S,h1,h2⟩:=m;exact⟨h0,S,h1,fun b h=>⟨(h2 b h).1,(h2 b h).2.1,fun e=>by have:=(h2 b h).2.1;omega⟩⟩
theorem fa.up {lo hi ex:Nat}{x:Ex}{v:Value}{W:World}(m:fa lo hi ex x v W):fa lo W.heap.size ex x v W:=by
 obtain⟨h0,S,h1,h2⟩:=m;exact⟨Nat.le_refl _,S,h1,fun b h=>⟨(h2 b h).1,Nat.lt_of_lt_of_le (h2 b h).2.1 h0,(h2 b h).2.2⟩⟩
abbrev sc (x:Ex)(A:Option Addr)(c:Nat):Array Value:= #[.int .i64 x.op, .int .i64 x.n, .string (strOf x.name), .slice A x.args.length c]
theorem tr (a:Int)(g:Nat)(w:World):(Instr.build 105 #[(0, .int .i64 a),(3, .slice (some ⟨g,0,none⟩) 2 2)]).run Tryz.prog w= .ok (.agg #[.int .i64 a, .int .i64 0, .string (strOf []), .slice (some ⟨g,0,none⟩) 2 2]) w:=pe a g w
theorem CZ (K:Ctx)(hK:K.Ok)(n lvl:Nat)(hlt5:lvl<5)(hup:Av K (n+1) (lvl+1))(hall:∀m,m≤n→Av K m (lvl+1)):Av K (n+1) lvl:=by
 intro p d w pw hne;have he:=yD K.ws n lvl p d hlt5;obtain⟨R,hR⟩:∃R,R=(bH K.ws (n+1)).E lvl p d:=⟨_,rfl⟩;rw[←hR] at hne⊢;rw[←hR] at he;have ab:=Fz.refl w.heap.size K.g w;have k99:=pw.an;have e99:K.g=K.g:=rfl;have hlt:=pw.an.lt;have hle:=hK.le;have hlen:=hK.len;have hne1:(bH K.ws (n+1)).E (lvl+1) p d≠ .out:=Rs.fD (by rw[←he];exact hne);refine Zs 66 Tryz.func151 ?_;refine aj ?_;refine Zl az ?_;intro g4 w1 n4;have e4:=Nat.le_trans ab.size n4.ge;have l4:=Nat.lt_of_lt_of_le k99.lt n4.ge;replace ab:=ab.step n4.below;replace k99:=k99.step n4.below;have k4:=n4.an;refine bn 0 1 4 (aB ?_);refine Zc (Ze Tryz.func195) (qJ _) ?_;rintro e wlv ⟨gl,rfl,hb5,hlv⟩;refine⟨_,rfl,?_⟩;obtain⟨ga,gb,cc,dd,csl,lv⟩:=hlv lvl hlt5;replace ab:=ab.step hb5;replace k99:=k99.step hb5;replace k4:=k4.step hb5;have kp:=Kp.refl wlv;refine Za ?_;refine aQ 0 1 4 5 (aI (aj ?_));refine Zm ?_;refine Zm ?_;refine Zv (aa.len rfl rfl Tryz.underlying244) ?_;refine bC ?_;refine aO 0 1 4 5 13 (Zt ?_);refine Cd.aM rfl (decide_eq_false (by omega)) ?_;refine Cd.skip (aB ?_);refine Zm ?_;refine Zm ?_;refine cG ?_;have hcl:=hup p d _ (pw.to hle ab k99) hne1;have hcast:((lvl+1:Nat):Int)=(lvl:Int)+1:=by omega
 rw[hcast] at hcl;rcases Rs.dA hne1 with ⟨q,ov,hr⟩|⟨x,q,hr⟩
 ·rw[hr] at hcl he
  refine Seq.cZ (Ze Tryz.func151) rfl hcl ?_;rintro e w8 ⟨hf,rfl,d6,hp6⟩;refine⟨_,rfl,fun a ha=>⟨ha.defers,?_⟩⟩;rw[he];exact⟨ab.call hf,rfl,d6,hp6⟩
 rw[hr] at hcl he;replace he:R=(bH K.ws (n+1)).L lvl x q d:=he;have hk4:=k4.lt;have hsb:=ab.size;refine Zc (Ze Tryz.func151) (hcl) ?_;rintro e wq ⟨hf,v6,rfl,pwq,S,hrep,hb⟩;refine⟨_,rfl,?_⟩;replace ab:=ab.call hf;replace k4:=k4.fz hf (by omega);replace kp:=kp.fz k99 hf;replace k99:=pwq.an;obtain⟨AX,cX,hvX⟩:=hrep.form;subst hvX;have rs:fa g4 wq.heap.size 0 x (.agg (sc x AX cX)) wq:=⟨Nat.le_refl _,S,hrep,fun b h=>⟨by have:=(hb b h).1;omega,(hb b h).2,by have:=(hb b h).1;omega⟩⟩;refine Zl az ?_;intro g6 w2 n6;have q6:=n6.ge;have e6:=Nat.le_trans ab.size n6.ge;have l6:=Nat.lt_of_lt_of_le k4.lt n6.ge;replace ab:=ab.step n6.below;replace k99:=k99.step n6.below;replace k4:=k4.step n6.below;replace kp:=kp.step n6.below;replace rs:=rs.step n6.below;have k6:=n6.an;refine Zo 4 k6 ?_;intro w3 pw3;replace ab:=ab.put k6 pw3 e6;replace k99:=k99.put pw3 (by omega);replace k4:=k4.put pw3 (by omega);replace kp:=kp.put k6 pw3 e6;replace rs:=rs.put k6 pw3 e6;replace k6:=pw3.an;refine aY 0 1 4 5 6 13 (Zt (Cd.block ?_));have h46:g4<g6:=by have:=hf.size;omega
 have h96:K.g<g6:=by omega
 refine Cd.loop (σ:=Nat × Ex × (Option Addr × Nat) × Nat) (fun s=>[(0, .pointer (some ⟨K.g,0,none⟩)),(1, .int .i64 (lvl:Int)),(4, .pointer (some ⟨g4,0,none⟩)),(5, .slice (some ⟨gl,0,none⟩) 5 5),(6, .pointer (some ⟨g6,0,none⟩))])
  (fun s wr=>PW K wr s.2.2.2 d false∧Fz w.heap.size K.g w wr∧aH wr g4 105 #[.int .i64 0, .int .i64 0, .string {data:= #[]}, .slice none 0 0]∧aH wr g6 105 (sc s.2.1 s.2.2.1.1 s.2.2.1.2)∧Kp wlv wr∧fa g4 wr.heap.size g6 s.2.1 (.agg (sc s.2.1 s.2.2.1.1 s.2.2.1.2)) wr∧s.1≤n+1∧R=(bH K.ws s.1).L lvl s.2.1 s.2.2.2 d)
  (fun s=>s.1) (n+1,x,(AX,cX),q) ⟨⟨k99,pw.rd.below (ab.below (by omega) hle),pwq.bJ,pwq.eo⟩,ab,k4,k6,kp,(rs.but q6).up,Nat.le_refl _,he⟩ ⟨rfl,rfl,rfl,rfl,rfl,trivial⟩ ?_
 clear ab k4 k6 kp rs k99 he hne1 hr hcl;rintro⟨m,left,⟨AL,cL⟩,pl⟩ wr ⟨pw1,ab,k4,k6,kp,rs,hm,he⟩;dsimp only at pw1 k6 rs hm he⊢;have k99:=pw1.an;have h4r:=k4.lt;have hkps:=kp.size
 obtain⟨m,rfl⟩:∃m',m=m'+1:=by
  cases m with
  |zero=>exact absurd he (by intro h;exact hne (by rw[h];rfl))
  |succ m=>exact⟨m,rfl⟩
 have hstep:R=dI K.ws (bH K.ws m) lvl left pl d:=he;clear he;obtain⟨b1,b2,b3⟩:=K.kj pl;obtain⟨a1,a2,a3,a4,a5⟩:=hK.at_ pl
 have hsig:∀t∈cK lvl,∀x∈t,x<256:=by
  have:∀lvl,∀t∈cK lvl,∀x∈t,x<256:=fun lvl=>by
   unfold cK;split<;>decide
  exact this lvl
 have hw:=ik K hK pl d false wr pw1;unfold FA at hw;refine Cd.block (aj ?_);refine Zm ?_;refine Zc (Ze Tryz.func164) (hw) ?_;rintro e w8 ⟨rfl,hb8⟩;refine⟨_,rfl,?_⟩;have hs8:=hb8.size;replace ab:=ab.step hb8;replace k99:=k99.step hb8;replace k4:=k4.step hb8;replace kp:=kp.step hb8;replace rs:=rs.step hb8;replace k6:=k6.step hb8;refine Zl bK ?_;intro g7 w4 n7;have q7:=n7.ge;have e7:=Nat.le_trans ab.size n7.ge;have l7:=Nat.lt_of_lt_of_le k6.lt n7.ge;replace ab:=ab.step n7.below;replace k99:=k99.step n7.below;replace k4:=k4.step n7.below;replace kp:=kp.step n7.below;replace rs:=rs.step n7.below;replace k6:=k6.step n7.below;have k7:=n7.an;refine Zo 4 k7 ?_;intro w5 pw5;replace ab:=ab.put k7 pw5 e7;replace k99:=k99.put pw5 (by omega);replace k4:=k4.put pw5 (by omega);replace kp:=kp.put k7 pw5 e7;replace rs:=rs.put k7 pw5 e7;replace k6:=k6.put pw5 (by omega);replace k7:=pw5.an;refine aY 0 1 4 5 6 7 (aI ?_)
 have haddL:Value.pointer (some ((⟨gl,0,none⟩:Addr).add (lvl*3)))= .pointer (some ⟨gl,lvl*3,none⟩):=by
  have:(⟨gl,0,none⟩:Addr).add (lvl*3)=⟨gl,lvl*3,none⟩:=by unfold Addr.add;split<;>simp_all
  rw[this]
 have hsl:(cK lvl).length≤1000:=by
  have:∀lvl,(cK lvl).length≤1000:=fun lvl=>by
   unfold cK;split<;>simp
  exact this lvl
 have hsv:(tL (cK lvl)).toArray.size=(cK lvl).length*1:=by simp[tL]
 refine ff 8 ?_;intro w6 hw6 zw6;replace ab:=ab.step hw6;replace k99:=k99.step hw6;replace k4:=k4.step hw6;replace kp:=kp.step hw6;replace rs:=rs.step hw6;replace k6:=k6.step hw6;replace k7:=k7.step hw6;have zbel:=ab.size;have zlt:=k7.lt;have kl:aH _ gl 248 csl:=kp.an lv.Gg;have ksg:=kp.an lv.sg;have kop:=kp.an lv.op;refine cf ?_;refine cf ?_;refine Zd (fun w hG=>(aa.bI rfl rfl rfl Tryz.underlying244 (s:=3) (by kernel_rfl) (j:=lvl) rfl (by omega)).cast haddL) ?_;refine Zd (fun w hG=>aa.gx 0 rfl rfl Tryz.underlying248 rfl (by kernel_rfl)) ?_;refine Zd (fun w hG=>aa.au (g:=gl) (i:=lvl*3) rfl rfl Tryz.underlying66 rfl (kl.step hG) lv.s0) ?_;refine eV 1 Tryz.underlying221 ?_;refine dZ Tryz.underlying9 k7 ?_;refine Dr.cJ rfl (fun w=>Ze Tryz.func139) rfl (fun w hG=>wE (cK lvl) (K.at_ pl).text (some ⟨ga,0,none⟩) cc w.heap.size w (Reads.an (ksg.step hG) _ hsv) (Nat.le_refl _) hsl hsig a3) ?_;refine Dr.nil ?_;refine bb.done (F':=[(0,_),(1,_),(4,_),(5,_),(6,_),(7,_),(29,_)]) rfl ⟨rfl,rfl,rfl,rfl,rfl,rfl,rfl,trivial⟩ ?_;intro w7 hw7 fw7;replace ab:=ab.step hw7;replace k99:=k99.step hw7;replace k4:=k4.step hw7;replace kp:=kp.step hw7;replace rs:=rs.step hw7;replace k6:=k6.step hw7;replace k7:=k7.step hw7;clear kl ksg kop;refine Za ?_;refine ba 0 1 4 5 6 7 8 (aI (aj ?_));refine Zf 0 Tryz.underlying221 ?_;refine ZL Tryz.underlying3 k7 ?_;refine sJ ?_;refine Zm ?_;refine aw.start ?_;refine bw (fun hcx=>aa.move rfl rfl) ?_;refine Zn (fun hcx=>aa.lss rfl rfl rfl) ?_;refine fg ?_;refine cB 0 1 4 5 6 7 8 36 (Zt ?_);have pwc:PW K _ pl d false:=⟨k99,pw.rd.below (ab.below (by omega) hle),pw1.bJ,pw1.eo⟩;refine Cd.cond rfl (fun hc=> ?_) (fun hc=> ?_)
 ·have hop:opAt K.ws lvl pl=none:=Al (by
   rw[←b1,←b2]
   simpa using hc)
  have hres:R= .ok left pl:=by rw[hstep];unfold dI;rw[hop]
  have hlt4:=k4.lt;have hlt6:=k6.lt;refine aj ?_;refine ZW 4 Tryz.underlying105 k6 ?_;refine Zo 4 k4 ?_;intro w8 pw8;replace ab:=ab.put k4 pw8 e4;replace k99:=k99.put pw8 (by omega);replace kp:=kp.put k4 pw8 e4;replace rs:=rs.put k4 pw8 e4;replace k6:=k6.put pw8 (by omega);replace k7:=k7.put pw8 (by omega);replace k4:=pw8.an;refine cB 0 1 4 5 6 7 8 36 (Zt (Cd.ret (ae.af (ae.ag (ae.aX (ae.ag ?_))))));refine gp 4 k4 Tryz.underlying105 ?_;rw[hres];have kk:=k99;obtain⟨hhi,S',hrep',hb'⟩:=rs;exact⟨ab,_,rfl,⟨k99,pw.rd.below (ab.below (by omega) hle),pw1.bJ,pw1.eo⟩,S',hrep',fun b h=>⟨by have:=(hb' b h).1;omega,by have:=(hb' b h).2.1;omega⟩⟩
 obtain⟨hk0,hix⟩:(dn K.ws pl).kind=0∧¬tn (cK lvl) (dn K.ws pl).text<0:=by
  rw[←b1,←b2]
  simpa using hc
 obtain⟨ix,op,hix1,hix2,hopi,hop,hop64⟩:=zh hk0 hix;rw[←b2] at hix1;have hstep2:R=((bH K.ws m).E (lvl+1) (pl+1) d).bind fun r p=>if lvl=2 then .ok (tZ op left r) p else(bH K.ws m).L lvl (tZ op left r) p d:=by rw[hstep];unfold dI;rw[hop]
 have hp1:pl+1≤K.ws.length:=by
  rcases Nat.lt_or_ge pl K.ws.length with h|h
  ·exact h
  ·have h1:dn K.ws pl=⟨-1,[],0,0⟩:=by unfold dn;rw[List.getD_eq_getElem?_getD,List.getElem?_eq_none h];rfl
   rw[h1] at hk0;exact absurd hk0 (by decide)
 have hne2:(bH K.ws m).E (lvl+1) (pl+1) d≠ .out:=Rs.fD (by rw[←hstep2];exact hne);rw[hix1];refine Cd.skip (aB ?_);refine Zm ?_;refine Zv (aa.nilCheck rfl rfl) ?_;refine Zf 1 Tryz.underlying219 ?_;refine ZL Tryz.underlying3 k99 ?_;refine cG ?_;refine Zv (aa.nilCheck rfl rfl) ?_;refine Zf 1 Tryz.underlying219 ?_;refine Zq k99 ?_;intro w8 pw8;replace ab:=ab.put k99 pw8 e99;replace k4:=k4.put pw8 (by omega);replace kp:=kp.put k99 pw8 e99;replace rs:=rs.put k99 pw8 e99;replace k6:=k6.put pw8 (by omega);replace k7:=k7.put pw8 (by omega);replace k99:=pw8.an;refine cB 0 1 4 5 6 7 8 36 (aI ?_);have kl:aH _ gl 248 csl:=kp.an lv.Gg;have kop:=kp.an lv.op
 have haddI:Value.pointer (some ((⟨gb,0,none⟩:Addr).add ix))= .pointer (some ⟨gb,ix,none⟩):=by
  have:(⟨gb,0,none⟩:Addr).add ix=⟨gb,ix,none⟩:=by unfold Addr.add;split<;>simp_all
  rw[this]
 have hopc:(DI (iu lvl)).toArray[ix]? =some (.int .i64 op):=by
  rw[List.getElem?_toArray,E1,hopi];rfl
 have pwn:PW K w8 (pl+1) d false:=⟨by rw[Int.natCast_add];exact k99,pw.rd.below (ab.below (by omega) hle),hp1,pw1.eo⟩;have hw8g:K.g<w8.heap.size:=k99.lt;have hxl:=hall m (by omega);refine Cd.jo (σT:=Value × (Nat→Prop) × Nat) 15 (by kernel_rfl) rfl rfl (fun σ=>[.slice (some ⟨gl,0,none⟩) 5 5, .int .i64 (lvl:Int), .pointer (some ⟨gl,lvl*3,none⟩), .pointer (some ⟨gl,lvl*3+1,none⟩), .slice (some ⟨gb,0,none⟩) (iu lvl).length dd, .int .i64 (ix:Int), .pointer (some ⟨gb,ix,none⟩), .int .i64 op, .agg (sc left AL cL), .pointer (some ⟨K.g,0,none⟩), .int .i64 (lvl:Int), .int .i64 ((lvl:Int)+1),σ.1, .slice (some ⟨σ.2.2,0,none⟩) 2 2, .agg #[.int .i64 op, .int .i64 0, .string (strOf []), .slice (some ⟨σ.2.2,0,none⟩) 2 2]]) (fun σ S W=>XA cw K w8 (pl+1) d ((bH K.ws m).E (lvl+1) (pl+1) d) (S 12) (S 13) σ.2.1 σ.1 σ.2.2 105 (aN [.agg (sc left AL cL),σ.1]).toArray W) ((undef,fun _=>False,0)) ?_ ?_ ?_
 ·intro w0 hb0 hs0
  exact⟨Fz.of hb0,fun _=>pwn.step hle hb0,fun h=>(by cases h),fun h=>(by cases h)⟩
 ·intro k o ho
  match k,ho with
  |0,ho=>
   injection ho with ho
   subst ho;intro σ S w hS hpre hdc hX;refine Seq.val (aa.move rfl rfl) rfl rfl rfl (Seq.nil ?_);exact ae.aD rfl rfl rfl hpre rfl (fun _ _=>rfl) hX
  |1,ho=>
   injection ho with ho
   subst ho;intro σ S w hS hpre hdc hX;refine Seq.val (aa.move rfl rfl) rfl rfl rfl (Seq.nil ?_);exact ae.aD rfl rfl rfl hpre rfl (fun _ _=>rfl) hX
  |2,ho=>
   injection ho with ho
   subst ho;intro σ S w hS hpre hdc hX;refine Seq.val ((aa.bI rfl rfl rfl Tryz.underlying244 (s:=3) (by kernel_rfl) (j:=lvl) rfl (by omega)).cast haddL) rfl rfl rfl (Seq.nil ?_);exact ae.aD rfl rfl rfl hpre rfl (fun _ _=>rfl) hX
  |3,ho=>
   injection ho with ho
   subst ho;intro σ S w hS hpre hdc hX;refine Seq.val (aa.gx 1 rfl rfl Tryz.underlying248 rfl (by kernel_rfl)) rfl rfl rfl (Seq.nil ?_);exact ae.aD rfl rfl rfl hpre rfl (fun _ _=>rfl) hX
  |4,ho=>
   injection ho with ho
   subst ho;intro σ S w hS hpre hdc hX;refine Seq.val (aa.au (g:=gl) (i:=lvl*3+1) rfl rfl Tryz.underlying96 rfl (kl.Ad k99 hX.fz (Nat.le_refl _)) lv.s1) rfl rfl rfl (Seq.nil ?_);exact ae.aD rfl rfl rfl hpre rfl (fun _ _=>rfl) hX
  |5,ho=>
   injection ho with ho
   subst ho;intro σ S w hS hpre hdc hX;refine Seq.val (aa.move rfl rfl) rfl rfl rfl (Seq.nil ?_);exact ae.aD rfl rfl rfl hpre rfl (fun _ _=>rfl) hX
  |6,ho=>
   injection ho with ho
   subst ho;intro σ S w hS hpre hdc hX;refine Seq.val ((aa.jy rfl rfl rfl Tryz.underlying96 (by kernel_rfl) (j:=ix) rfl hix2).cast haddI) rfl rfl rfl (Seq.nil ?_);exact ae.aD rfl rfl rfl hpre rfl (fun _ _=>rfl) hX
  |7,ho=>
   injection ho with ho
   subst ho;intro σ S w hS hpre hdc hX;refine Seq.val (aa.au (g:=gb) (i:=ix) rfl rfl Tryz.underlying3 rfl (kop.Ad k99 hX.fz (Nat.le_refl _)) hopc) rfl rfl rfl (Seq.nil ?_);exact ae.aD rfl rfl rfl hpre rfl (fun _ _=>rfl) hX
  |8,ho=>
   injection ho with ho
   subst ho;intro σ S w hS hpre hdc hX;refine Seq.val (aa.eK rfl rfl Tryz.underlying105 rfl (k6.fz hX.fz (by omega)) (m:=4) (by kernel_rfl) rfl) rfl rfl rfl (Seq.nil ?_);exact ae.aD rfl rfl rfl hpre rfl (fun _ _=>rfl) hX
  |9,ho=>
   injection ho with ho
   subst ho;intro σ S w hS hpre hdc hX;refine Seq.val (aa.move rfl rfl) rfl rfl rfl (Seq.nil ?_);exact ae.aD rfl rfl rfl hpre rfl (fun _ _=>rfl) hX
  |10,ho=>
   injection ho with ho
   subst ho;intro σ S w hS hpre hdc hX;refine Seq.val (aa.move rfl rfl) rfl rfl rfl (Seq.nil ?_);exact ae.aD rfl rfl rfl hpre rfl (fun _ _=>rfl) hX
  |11,ho=>
   injection ho with ho
   subst ho;intro σ S w hS hpre hdc hX;refine Seq.val (aa.kA rfl rfl rfl (by omega) (by omega)) rfl rfl rfl (Seq.nil ?_);exact ae.aD rfl rfl rfl hpre rfl (fun _ _=>rfl) hX
  |12,ho=>
   injection ho with ho
   subst ho;intro σ S w hS hpre hdc hX
   have h13:S 13=false:=by
    cases h:S 13 with
    |false=>rfl
    |true=>have:=hdc 13 _ rfl h 12 (ao rfl);rw[hS] at this;cases this
   have hcl:=hxl (pl+1) d w (hX.pre hS) hne2;rw[hcast] at hcl;rcases Rs.dA hne2 with ⟨q2,ov,hr⟩|⟨y,q2,hr⟩
   ·rw[hr] at hcl
    refine Seq.cZ (Ze Tryz.func151) rfl hcl ?_;rintro e w6 ⟨hf,rfl,d6,hp6⟩;refine⟨_,rfl,fun a ha=>⟨ha.defers,?_⟩⟩;rw[hstep2,hr];exact⟨ab.call (hX.fz.call hf),rfl,d6,hp6⟩
   ·rw[hr] at hcl
    refine Zc (Ze Tryz.func151) hcl ?_;rintro e w6 ⟨hf,v6,rfl,hp6,S6,hr6,hb6⟩;refine⟨_,rfl,Seq.nil ?_⟩;have hsz:=hX.fz.size;refine ae.aD (σ:=σ) (σ':=(v6,S6,σ.2.2)) rfl rfl rfl hpre rfl (fun j hj=> ?_) ⟨hX.fz.call hf,(fun h=>by cases h),fun _=>⟨y,q2,hr,hp6,hr6,fun b hb=>⟨by have:=(hb6 b hb).1;omega,(hb6 b hb).2⟩⟩,fun hm=> ?_⟩
    ·match j,hj with
     |0,_=>rfl
     |1,_=>rfl
     |2,_=>rfl
     |3,_=>rfl
     |4,_=>rfl
     |5,_=>rfl
     |6,_=>rfl
     |7,_=>rfl
     |8,_=>rfl
     |9,_=>rfl
     |10,_=>rfl
     |11,_=>rfl
     |12,hj=>rw[hS] at hj;cases hj
     |13,_=>rfl
     |14,_=>rfl
     |j+15,_=>rfl
    ·have hm:S 13=true:=hm
     rw[h13] at hm;cases hm
  |13,ho=>
   injection ho with ho
   subst ho;intro σ S w hS hpre hdc hX;obtain⟨y,q2,q1,pz,q3,q4⟩:=hX.post (hpre 12 (ao rfl));have hones:=q3.aV
   have h14:S 14=false:=by
    cases h:S 14 with
    |false=>rfl
    |true=>have:=hdc 14 _ rfl h 13 (ao rfl);rw[hS] at this;cases this
   refine Seq.slice (vs:=[.agg (sc left AL cL),σ.1]) (s:=4) rfl rfl rfl Tryz.underlying68 (by kernel_rfl) az (by omega) (by omega) ⟨rfl,hones.1,trivial⟩ rfl rfl rfl ?_;intro g7 w' n7;refine Seq.nil ?_;have hsz:=hX.fz.size;refine ae.aD (σ:=σ) (σ':=(σ.1,σ.2.1,g7)) rfl rfl rfl hpre rfl (fun j hj=> ?_) ⟨hX.fz.step n7.below,fun h=>(hX.pre h).step hle n7.below,fun h=> ?_,fun _=>⟨Nat.le_trans hsz n7.ge,n7.an,fun h hb=> ?_⟩⟩
   ·match j,hj with
    |0,_=>rfl
    |1,_=>rfl
    |2,_=>rfl
    |3,_=>rfl
    |4,_=>rfl
    |5,_=>rfl
    |6,_=>rfl
    |7,_=>rfl
    |8,_=>rfl
    |9,_=>rfl
    |10,_=>rfl
    |11,_=>rfl
    |12,_=>rfl
    |13,hj=>rw[hS] at hj;cases hj
    |14,hj=>rw[h14] at hj;cases hj
    |j+15,_=>rfl
   ·exact⟨y,q2,q1,pz.step hle n7.below,q3.mono (fun _ h=>h) (fun a ha=>n7.below.cell (q4 _ ha).2),fun b hb=>⟨(q4 b hb).1,Nat.lt_of_lt_of_le (q4 b hb).2 n7.below.size⟩⟩
   ·exact Nat.lt_irrefl _ (Nat.lt_of_lt_of_le (q4 _ hb).2 n7.ge)
  |14,ho=>
   injection ho with ho
   subst ho;intro σ S w hS hpre hdc hX;refine Seq.val (aa.build rfl rfl (pe _ _ _)) rfl rfl rfl (Seq.nil ?_);exact ae.aD rfl rfl rfl hpre rfl (fun _ _=>rfl) hX
  |k+15,ho=>simp at ho
 rintro⟨vy,Sy,g58⟩ S2 wz hS2 hX;obtain⟨y,q2,hr2,pwz,hrepy,hby⟩:=hX.post (hS2 12 (by decide));obtain⟨e58,k58,hn58⟩:=hX.new (hS2 13 (by decide));dsimp only at hrepy hby e58 k58 hn58;have hn58:=hn58 (hS2 12 (by decide));have fzz:=hX.fz;clear hX;have hs8:=ab.size;have hszz:=fzz.size;have hl4:=k4.lt;have hl6:=k6.lt;have belz:=ab.call fzz;have k4z:=k4.fz fzz (by omega);have k6z:=k6.fz fzz (by omega);have kpz:=kp.fz k99 fzz;have rsz:=rs.fz fzz (by omega);obtain⟨AY,cY,hvY⟩:=hrepy.form;subst hvY;obtain⟨hhi,Sl,hrepl,hbl⟩:=rsz;have hhi8:=rs.1;have hadd58:(⟨g58,0,none⟩:Addr).add=fun j=>⟨g58,j,none⟩:=by funext j;unfold Addr.add;split<;>simp_all
 have rs2:fa g4 wz.heap.size g6 (tZ op left y) (.agg (sc (tZ op left y) (some ⟨g58,0,none⟩) 2)) wz:=by
  refine⟨Nat.le_refl _,fun b=>Sl b∨Sy b∨b=g58,cw.mk (args:=[left,y]) (vs:=[.agg (sc left AL cL), .agg (sc y AY cY)]) rfl (by simp) hop64 (by unfold bm;omega) (by simp) (by simp) (fun i e v h1 h2=> ?_) (fun _=>⟨⟨g58,0,none⟩,rfl, .inr (.inr rfl),fun j u hu=> ?_⟩),fun b hb=> ?_⟩
  ·match i,h1,h2 with
   |0,h1,h2=>
    simp at h1 h2;subst h1 h2;exact hrepl.mono (fun _ h=> .inl h) (fun _ _=>rfl)
   |1,h1,h2=>
    simp at h1 h2;subst h1 h2;exact hrepy.mono (fun _ h=> .inr (.inl h)) (fun _ _=>rfl)
   |i+2,h1,_=>simp at h1
  ·rw[hadd58,k58.cell j]
   have hu2:(aN [Value.agg (sc left AL cL),Value.agg (sc y AY cY)]).toArray[j]? =some u:=by simpa using hu
   exact hu2
  ·rcases hb with hb|hb|rfl
   ·obtain⟨h1,h2,h3⟩:=hbl b hb
    exact⟨h1,by omega,h3⟩
   ·obtain⟨h1,h2⟩:=hby b hb
    exact⟨by omega,h2,by omega⟩
   ·exact⟨by omega,k58.lt,by omega⟩
 have hstep3:R=if lvl=2 then .ok (tZ op left y) q2 else(bH K.ws m).L lvl (tZ op left y) q2 d:=by rw[hstep2,hr2];rfl
 clear ab k4 k6 kp rs k99 k7 kl kop;have ab:=belz;have k4:=k4z;have k6:=k6z;have kp:=kpz;have rs:=rs2;have k99:=pwz.an;refine Zo 4 k6 ?_;intro w9 pw9;replace ab:=ab.put k6 pw9 e6;replace kp:=kp.put k6 pw9 e6;replace rs:=rs.put k6 pw9 e6;replace k99:=k99.put pw9 (by omega);replace k4:=k4.put pw9 (by omega);replace k6:=pw9.an;refine cB 0 1 4 5 6 7 8 36 (aB ?_);refine Zm ?_;refine Zm ?_;have kl:aH _ gl 248 csl:=kp.an lv.Gg;refine Zv ((aa.bI rfl rfl rfl Tryz.underlying244 (s:=3) (by kernel_rfl) (j:=lvl) rfl (by omega)).cast haddL) ?_;refine Zv (aa.gx 2 rfl rfl Tryz.underlying248 rfl (by kernel_rfl)) ?_;refine Zv (aa.au (g:=gl) (i:=lvl*3+2) rfl rfl Tryz.underlying4 rfl kl lv.s2) ?_;refine dY 0 1 4 5 6 7 8 36 64 (Zt ?_);refine Cd.ak rfl (fun h2=> ?_) (fun h2=> ?_)
 ·rw[if_pos h2] at hstep3
  have hlt4:=k4.lt;refine aj ?_;refine ZW 4 Tryz.underlying105 k6 ?_;refine Zo 4 k4 ?_;intro w10 pw10;replace ab:=ab.put k4 pw10 e4;replace kp:=kp.put k4 pw10 e4;replace rs:=rs.put k4 pw10 e4;replace k99:=k99.put pw10 (by omega);replace k6:=k6.put pw10 (by omega);replace k4:=pw10.an;refine dY 0 1 4 5 6 7 8 36 64 (Zt (Cd.ret (ae.ag (ae.aX (ae.ag ?_)))));refine gp 4 k4 Tryz.underlying105 ?_;rw[hstep3];obtain⟨hhi2,S',hrep',hb'⟩:=rs;exact⟨ab,_,rfl,⟨k99,pw.rd.below (ab.below (by omega) hle),pwz.bJ,pwz.eo⟩,S',hrep',fun b h=>⟨by have:=(hb' b h).1;omega,by have:=(hb' b h).2.1;omega⟩⟩
 ·rw[if_neg h2] at hstep3
  refine Cd.skip (ae.ah ?_);exact ae.round (m,tZ op left y,(some ⟨g58,0,none⟩,2),q2) ⟨rfl,rfl,rfl,rfl,rfl,trivial⟩ ⟨⟨k99,pw.rd.below (ab.below (by omega) hle),pwz.bJ,pwz.eo⟩,ab,k4,k6,kp,rs.up,by dsimp only;omega,hstep3⟩ (by dsimp only;omega)
theorem D3 (K:Ctx)(hK:K.Ok)(n:Nat):(∀m,m≤n→D9 K (bH K.ws m).S∧∀lvl,lvl≤5→Av K m lvl):=by
 induction n with
 |zero=>
  intro m hm;obtain rfl:m=0:=by omega
  exact⟨fun p d W _ h=>absurd rfl h,fun lvl _ p d W _ h=>absurd rfl h⟩
 |succ n ih=>
  intro m hm;rcases Nat.lt_or_ge m (n+1) with h|h
  ·exact ih m (by omega)
  obtain rfl:m=n+1:=by omega
  obtain⟨i1,i2⟩:=ih n (Nat.le_refl _)
  have hS:D9 K (bH K.ws (n+1)).S:=fun p d W hp hne=>by
   have e:(bH K.ws (n+1)).S p d=bD K.ws (bH K.ws n).S ((bH K.ws n).E 0) p d:=rfl;rw[e] at hne⊢;exact Af K hK _ _ i1 (fun p d W hp hne=>i2 0 (by omega) p d W hp hne) p d W hp hne
  refine⟨hS,fun lvl hl=> ?_⟩
  have key:∀j lvl,lvl+j=5→Av K (n+1) lvl:=by
   intro j
   induction j with
   |zero=>intro lvl h;obtain rfl:lvl=5:=(by omega);exact Cf K hK n hS
   |succ j ihj=>intro lvl h;exact CZ K hK n lvl (by omega) (ihj (lvl+1) (by omega)) (fun m hm=>(ih m hm).2 (lvl+1) (by omega))
  exact key (5-lvl) lvl (by omega)
def sB (x:Nat × Nat × Nat):Value:= .func (.func x.1) #[] #[.pointer (some ⟨x.2.1,0,none⟩), .pointer (some ⟨x.2.2,0,none⟩)]
def DH (K:Ctx)(gt:Nat)(x:Nat × Nat × Nat)(W:World):Prop:=aH W x.2.1 227 #[.pointer (some ⟨gt,0,none⟩)]∧aH W x.2.2 189 #[.pointer (some ⟨K.g,0,none⟩)]
def pG (K:Ctx)(gt:Nat)(L:List (Nat × Nat × Nat))(W:World):Prop:=∀x∈L,DH K gt x W
theorem pG.step {K:Ctx}{gt:Nat}{L:List (Nat × Nat × Nat)}{W W':World}(h:pG K gt L W)(hb:Below W.heap.size W W'):pG K gt L W':=fun x hx=>⟨(h x hx).1.step hb,(h x hx).2.step hb⟩
theorem pG.app {K:Ctx}{gt B B' n size:Nat}{v:Value}{xs:List Value}{L:List (Nat × Nat × Nat)}{W W':World}(h:pG K gt L W)(o:Own W B 1 size v n xs)(ha:App W W' B' v):pG K gt L W':=fun x hx=>⟨(h x hx).1.app o ha,(h x hx).2.app o ha⟩
theorem pG.snoc {K:Ctx}{gt:Nat}{L:List (Nat × Nat × Nat)}{W:World}{x:Nat × Nat × Nat}(h:pG K gt L W)(hx:DH K gt x W):pG K gt (L++[x]) W:=fun y hy=>by
 rcases List.mem_append.1 hy with hy|hy
 ·exact h y hy
 ·obtain rfl:=List.mem_singleton.1 hy
  exact hx
theorem Cu (K:Ctx)(gt:Nat)(w:World):Calls Tryz.prog 171 #[.pointer (some ⟨K.g,0,none⟩), .pointer (some ⟨gt,0,none⟩)] w fun e w'=>(∃a b,e= .returned (sB (212,a,b))∧DH K gt (212,a,b) w')∧Grow w w':=by
 have ab:=Below.refl w.heap.size w;refine Zs 6 Tryz.func171 ?_;refine aj ?_;refine Seq.box rfl rfl rfl rfl rfl ?_;intro g2 w1 n2;have e2:=Nat.le_trans ab.size n2.ge;replace ab:=ab.step n2.below;have k2:=n2.an;refine Seq.box rfl rfl rfl rfl rfl ?_;intro g3 w2 n3;have e3:=Nat.le_trans ab.size n3.ge;have l3:=Nat.lt_of_lt_of_le k2.lt n3.ge;replace ab:=ab.step n3.below;replace k2:=k2.step n3.below;have k3:=n3.an;refine Za ?_;refine aO 0 1 2 3 4 (aB ?_);refine Zv (aa.makeFunc (v:= .func (.func 212) #[] #[.pointer (some ⟨g3,0,none⟩), .pointer (some ⟨g2,0,none⟩)]) rfl (show jn _ _=some [] from rfl) (show jn _ _=some [.pointer (some ⟨g3,0,none⟩), .pointer (some ⟨g2,0,none⟩)] from rfl) rfl) ?_;refine Za ?_;refine aO 0 1 2 3 4 (Zt (Cd.ret ?_));refine aZ ?_;exact⟨⟨_,_,rfl,k3,k2⟩,ab⟩
theorem yZ (K:Ctx)(gt:Nat)(w:World):Calls Tryz.prog 170 #[.pointer (some ⟨K.g,0,none⟩), .pointer (some ⟨gt,0,none⟩)] w fun e w'=>(∃a b,e= .returned (sB (211,a,b))∧DH K gt (211,a,b) w')∧Grow w w':=by
 have ab:=Below.refl w.heap.size w;refine Zs 6 Tryz.func170 ?_;refine aj ?_;refine Seq.box rfl rfl rfl rfl rfl ?_;intro g2 w1 n2;have e2:=Nat.le_trans ab.size n2.ge;replace ab:=ab.step n2.below;have k2:=n2.an;refine Seq.box rfl rfl rfl rfl rfl ?_;intro g3 w2 n3;have e3:=Nat.le_trans ab.size n3.ge;have l3:=Nat.lt_of_lt_of_le k2.lt n3.ge;replace ab:=ab.step n3.below;replace k2:=k2.step n3.below;have k3:=n3.an;refine Za ?_;refine aO 0 1 2 3 4 (aB ?_);refine Zv (aa.makeFunc (v:= .func (.func 211) #[] #[.pointer (some ⟨g3,0,none⟩), .pointer (some ⟨g2,0,none⟩)]) rfl (show jn _ _=some [] from rfl) (show jn _ _=some [.pointer (some ⟨g3,0,none⟩), .pointer (some ⟨g2,0,none⟩)] from rfl) rfl) ?_;refine Za ?_;refine aO 0 1 2 3 4 (Zt (Cd.ret ?_));refine aZ ?_;exact⟨⟨_,_,rfl,k3,k2⟩,ab⟩
theorem Fv:∀args w,(callFunc 212 args).run Tryz.prog w= .ok (.enter 212 args) w:=fun args w=>bG Tryz.func212 (by kernel_rfl) rfl args w
theorem Eh:∀args w,(callFunc 211 args).run Tryz.prog w= .ok (.enter 211 args) w:=fun args w=>bG Tryz.func211 (by kernel_rfl) rfl args w
theorem BY:∀args w,(callFunc 167 args).run Tryz.prog w= .ok (.enter 167 args) w:=fun args w=>bG Tryz.func167 (by kernel_rfl) rfl args w
theorem AH (K:Ctx)(hK:K.Ok)(h0 gt b1 d p:Nat)(op:Int)(nm:List Nat)(vE vT:Value)(w:World)(pw:PW K w p d false)(hg0:K.g<h0)(hgt:h0≤gt)(hh:h0≤w.heap.size)(kt:aH w gt 71 #[.int .i64 op, .string (strOf nm),vE,vT]) (kb1:aH w b1 189 #[.pointer (some ⟨K.g,0,none⟩)]):
  Calls Tryz.prog 167 #[.pointer (some ⟨b1,0,none⟩), .pointer (some ⟨gt,0,none⟩)] w (vJ K h0 w d (eA K.ws p) fun x _ W'=>Kp w W'∧aH W' gt 71 #[.int .i64 op, .string (strOf x),vE,vT]):=by
 have hle:=hK.le;have ab:=Fz.refl w.heap.size K.g w;have k1:=kb1;have hcl:=uc K hK p d w pw;have hgl:=kt.lt;have hpl:=pw.an.lt;refine Zs 5 Tryz.func167 ?_;refine Zr ?_;refine ZL Tryz.underlying189 k1 ?_;rcases Rs.dA (vG K.ws p) with ⟨q,ov,hr⟩|⟨x,q,hr⟩
 ·rw[hr] at hcl
  refine Seq.cZ (Ze Tryz.func168) rfl hcl ?_;rintro e w6 ⟨hf,rfl,d6,hp6⟩;refine⟨_,rfl,fun a ha=>⟨ha.defers,?_⟩⟩;rw[hr];exact⟨hf.less hh,rfl,d6,hp6⟩
 rw[hr] at hcl⊢;refine Zc (Ze Tryz.func168) (hcl) ?_;rintro e wq ⟨hf,v6,rfl,pwq,rfl⟩;refine⟨_,rfl,?_⟩;clear ab k1;have ab:Fz h0 K.g w wq:=hf.less hh;have kp:=(Kp.refl w).fz pw.an hf;have k2:=kt.fz hf (by omega);have k99:=pwq.an;have e2:h0≤gt:=hgt;have loc:Fz h0 K.g wq wq:=Fz.refl _ _ _;refine Zf 1 Tryz.underlying71 ?_;refine Zq k2 ?_;intro w1 pw1;replace ab:=ab.put k2 pw1 e2;replace kp:=kp.put k2 pw1 e2;replace k99:=k99.put pw1 (by omega);replace loc:=loc.put k2 pw1 e2;replace k2:=pw1.an;refine dF 0 1 ?_;refine ae.gu rfl (.inr rfl) ?_;exact⟨ab,_,rfl,⟨k99,pwq.rd.below (loc.below (by omega) hle),pwq.bJ,pwq.eo⟩,kp,k2⟩
def FW (K:Ctx)(T0:Nat→Nat→Rs Tm):Prop:=∀p d W,PW K W p d false→T0 p d≠ .out→Calls Tryz.prog 128 #[.pointer (some ⟨K.g,0,none⟩)] W (PR K W d (T0 p d) (AW W))
theorem nx (w:World):(Instr.build 71 #[(0, .int .i64 1)]).run Tryz.prog w= .ok (.agg #[.int .i64 1, .string (strOf []), .slice none 0 0, .slice none 0 0]) w:=by kernel_rfl
theorem vJ.F8 {α:Type}{K:Ctx}{h d:Nat}{w w':World}{r:Rs α}{ok1 ok2:α→Value→World→Prop}{e:Ending}(hr:vJ K h w d r ok1 e w')(hm:∀a p v w',r= .ok a p→ok1 a v w'→ok2 a v w'):vJ K h w d r ok2 e w':=by
 refine⟨hr.1,?_⟩
 cases r with
 |out=>exact hr.2
 |bad p o=>exact hr.2
 |ok a p=>obtain⟨v,h1,h2,h3⟩:=hr.2;exact⟨v,h1,h2,hm _ _ _ _ rfl h3⟩
theorem Bq {K:Ctx}(hK:K.Ok){p q:Nat}{x:List Nat}(h:eA K.ws p= .ok x q):(∀c∈x,c<256)∧x.length≤4000:=by
 obtain⟨a1,a2,a3,a4,a5⟩:=hK.at_ p;obtain⟨b1,b2,b3⟩:=K.kj p;unfold eA at h;split at h
 ·injection h with h
  rw[←h,←b2];exact⟨a3,a4⟩
 ·cases h
theorem vJ.map {α β:Type}{K:Ctx}{h d:Nat}{w w':World}{r:Rs α}{f:α→β}{ok1:α→Value→World→Prop}{ok2:β→Value→World→Prop}{e:Ending}(hr:vJ K h w d r ok1 e w')(hm:∀a v w',ok1 a v w'→ok2 (f a) v w'):vJ K h w d (r.map f) ok2 e w':=by
 refine⟨hr.1,?_⟩
 cases r with
 |out=>exact hr.2
 |bad p o=>exact hr.2
 |ok a p=>obtain⟨v,h1,h2,h3⟩:=hr.2;exact⟨v,h1,h2,hm _ _ _ h3⟩
theorem Cq (K:Ctx)(hK:K.Ok)(E0:Nat→Nat→Rs Ex)(T0:Nat→Nat→Rs Tm)(hE:Et K E0)(hT:FW K T0)(p d:Nat)(w:World)(pw:PW K w p d false)(hne:ee K.ws E0 T0 p d≠ .out):
  Calls Tryz.prog 128 #[.pointer (some ⟨K.g,0,none⟩)] w (PR K w d (ee K.ws E0 T0 p d) (AW w)):=by
 have ab:=Fz.refl w.heap.size K.g w;have k99:=pw.an;have e99:K.g=K.g:=rfl;have hlt:=pw.an.lt;have hlen:=hK.len;have hle:=hK.le;have hpl:=pw.bJ;obtain⟨a1,a2,a3,a4,a5⟩:=hK.at_ p;obtain⟨b1,b2,b3⟩:=K.kj p;have hw:=fun W h=>ik K hK p d false W h;unfold FA at hw;obtain⟨op,hop⟩:∃op,op=(cF (K.at_ p).text).1:=⟨_,rfl⟩;obtain⟨ne,hnE⟩:∃ne,ne=(cF (K.at_ p).text).2.1:=⟨_,rfl⟩;obtain⟨ns,hnS⟩:∃ns,ns=(cF (K.at_ p).text).2.2:=⟨_,rfl⟩
 have hq:ee K.ws E0 T0 p d=if(K.at_ p).kind≠3 then .bad p false else if(K.at_ p).text=yn then .ok (.mk 1 [] [] []) (p+1)
   else if(K.at_ p).text=xQ then(aT K.ws [fun p _=>eA K.ws p] (p+1) d).bind fun xs p=> .ok (.mk 2 (xs.getD 0 []) [] []) p
   else if op=0 then .bad p false else(aT K.ws (eO E0 T0 ne ns) (p+1) d).bind fun xs p=> .ok (.mk op [] (cU xs) (bY xs)) p:=by
  rw[b1,hop,hnE,hnS,b2];unfold ee;rfl
 have hbd:ne≤1∧ns≤2∧bm op:=by
  rw[hop,hnE,hnS]
  have:∀t,(cF t).2.1≤1∧(cF t).2.2≤2∧bm (cF t).1:=fun t=>by
   unfold cF
   repeat' split
   all_goals exact⟨by decide,by decide,by unfold bm;decide⟩
  exact this _
 have hp:(K.at_ p).kind≠ -1→p+1≤K.ws.length:=fun hk=>by
  rcases Nat.lt_or_ge p K.ws.length with h|h
  ·exact h
  ·exact absurd (by unfold Ctx.at_;rw[List.getD_eq_getElem?_getD,List.getElem?_eq_none h];rfl) hk
 have hterms:=fun W=>zx (K.at_ p).text W a3;rw[←hop,←hnE,←hnS] at hterms;refine Zs 85 Tryz.func128 ?_;refine aj ?_;refine Seq.box rfl rfl rfl rfl rfl ?_;intro g1 w1 n1;have e1:=Nat.le_trans ab.size n1.ge;have l1:=Nat.lt_of_lt_of_le k99.lt n1.ge;replace ab:=ab.step n1.below;replace k99:=k99.step n1.below;have k1:=n1.an;refine Zl aG ?_;intro g2 w2 n2;have e2:=Nat.le_trans ab.size n2.ge;have l2:=Nat.lt_of_lt_of_le k1.lt n2.ge;replace ab:=ab.step n2.below;replace k99:=k99.step n2.below;replace k1:=k1.step n2.below;have k2:=n2.an;refine bn 0 1 2 (aB ?_);refine ZL Tryz.underlying189 k1 ?_;refine Zc (Ze Tryz.func164) (hw _ (pw.to hle ab k99)) ?_;rintro e w5 ⟨rfl,hb5⟩;refine⟨_,rfl,?_⟩;replace ab:=ab.step hb5;replace k99:=k99.step hb5;replace k1:=k1.step hb5;replace k2:=k2.step hb5;refine Zl bK ?_;intro g3 w3 n3;have e3:=Nat.le_trans ab.size n3.ge;have l3:=Nat.lt_of_lt_of_le k2.lt n3.ge;replace ab:=ab.step n3.below;replace k99:=k99.step n3.below;replace k1:=k1.step n3.below;replace k2:=k2.step n3.below;have k3:=n3.an;refine Zo 4 k3 ?_;intro w4 pw4;replace ab:=ab.put k3 pw4 e3;replace k99:=k99.put pw4 (by omega);replace k1:=k1.put pw4 (by omega);replace k2:=k2.put pw4 (by omega);replace k3:=pw4.an;refine aQ 0 1 2 3 (aI (aj ?_));refine Zf 0 Tryz.underlying221 ?_;refine ZL Tryz.underlying3 k3 ?_;refine sJ ?_;refine aO 0 1 2 3 13 (Zt ?_);refine Cd.ak rfl (fun c1=> ?_) (fun c1=> ?_)
 ·rw[if_pos c1] at hq
  refine Zr ?_;refine ZL Tryz.underlying189 k1 ?_;refine Seq.cZ (Ze Tryz.func165) rfl (jL K.g _) ?_;rintro e w6 ⟨rfl,hb6⟩;refine⟨_,rfl,fun a ha=>⟨ha.defers,?_⟩⟩;rw[hq];exact⟨ab.step hb6,rfl,d,pw.to hle (ab.step hb6) (k99.step hb6)⟩
 rw[if_neg c1] at hq;have hp1:=hp (by intro h;exact c1 (by rw[h];decide));refine Cd.skip (aB ?_);refine Zl aG ?_;intro g4 w5 n4;have e4:=Nat.le_trans ab.size n4.ge;have l4:=Nat.lt_of_lt_of_le k3.lt n4.ge;replace ab:=ab.step n4.below;replace k99:=k99.step n4.below;replace k1:=k1.step n4.below;replace k2:=k2.step n4.below;replace k3:=k3.step n4.below;have k4:=n4.an;refine aY 0 1 2 3 4 13 (aI (aj ?_));refine Zf 1 Tryz.underlying221 ?_;refine ZL Tryz.underlying9 k3 ?_;refine ba 0 1 2 3 4 13 17 (Zt (Cd.block (aj ?_)));refine Zv (aa.cI (b:=yn) rfl rfl rfl a3 (by decide)) ?_;refine Za ?_;refine cB 0 1 2 3 4 13 17 18 (Zt ?_);refine Cd.ak rfl (fun c2=> ?_) (fun c2=> ?_)
 ·rw[if_pos c2] at hq
  refine aj ?_;refine ZL Tryz.underlying189 k1 ?_;refine Zv (aa.nilCheck rfl rfl) ?_;refine Zf 1 Tryz.underlying219 ?_;refine ZL Tryz.underlying3 k99 ?_;refine cG ?_;refine Zv (aa.nilCheck rfl rfl) ?_;refine Zf 1 Tryz.underlying219 ?_;refine Zq k99 ?_;intro w6 pw6;replace ab:=ab.put k99 pw6 e99;replace k1:=k1.put pw6 (by omega);replace k2:=k2.put pw6 (by omega);replace k3:=k3.put pw6 (by omega);replace k4:=k4.put pw6 (by omega);replace k99:=pw6.an;refine cB 0 1 2 3 4 13 17 18 (aB ?_);refine Zv (aa.build rfl rfl (nx _)) ?_;refine Zo 4 k2 ?_;intro w7 pw7;replace ab:=ab.put k2 pw7 e2;replace k99:=k99.put pw7 (by omega);replace k1:=k1.put pw7 (by omega);replace k3:=k3.put pw7 (by omega);replace k4:=k4.put pw7 (by omega);replace k2:=pw7.an;refine cB 0 1 2 3 4 13 17 18 (Zt (Cd.ret (ae.ag (ae.af ?_))));refine gp 4 k2 Tryz.underlying71 ?_;rw[hq];exact⟨ab,_,rfl,pw.next hle hp1 ab k99,fun _=>False,dr.mk (es:=[]) (ts:=[]) (vs:=[]) (us:=[]) rfl rfl (by simp) (by simp) (by unfold bm;omega) (by simp) (by simp) (fun i e v h=>by simp at h) (fun i e v h=>by simp at h) (fun h=>absurd rfl h) (fun h=>absurd rfl h),fun b hb=>hb.elim⟩
 rw[if_neg c2] at hq;refine aj ?_;refine Zv (aa.cI (b:=xQ) rfl rfl rfl a3 (by decide)) ?_;refine Za ?_;refine dY 0 1 2 3 4 13 17 18 28 (Zt ?_);refine Cd.ak rfl (fun c3=> ?_) (fun c3=> ?_)
 ·rw[if_pos c3] at hq
  refine aj ?_;refine ZL Tryz.underlying189 k1 ?_;refine Zv (aa.nilCheck rfl rfl) ?_;refine Zf 1 Tryz.underlying219 ?_;refine ZL Tryz.underlying3 k99 ?_;refine cG ?_;refine Zv (aa.nilCheck rfl rfl) ?_;refine Zf 1 Tryz.underlying219 ?_;refine Zq k99 ?_;intro w6 pw6;replace ab:=ab.put k99 pw6 e99;replace k1:=k1.put pw6 (by omega);replace k2:=k2.put pw6 (by omega);replace k3:=k3.put pw6 (by omega);replace k4:=k4.put pw6 (by omega);replace k99:=pw6.an;refine dY 0 1 2 3 4 13 17 18 28 (aB ?_);refine Zf 0 Tryz.underlying71 ?_;refine Zq k4 ?_;intro w7 pw7;replace ab:=ab.put k4 pw7 e4;replace k99:=k99.put pw7 (by omega);replace k1:=k1.put pw7 (by omega);replace k2:=k2.put pw7 (by omega);replace k3:=k3.put pw7 (by omega);replace k4:=pw7.an;refine dY 0 1 2 3 4 13 17 18 28 (aB ?_);refine ZL Tryz.underlying189 k1 ?_;refine Zv (aa.makeFunc (v:= .func (.func 167) #[] #[.pointer (some ⟨g1,0,none⟩), .pointer (some ⟨g4,0,none⟩)]) rfl (show jn _ _=some [] from rfl) (show jn _ _=some [.pointer (some ⟨g1,0,none⟩), .pointer (some ⟨g4,0,none⟩)] from rfl) rfl) ?_;refine Seq.slice (vs:=[_]) (s:=1) rfl rfl rfl Tryz.underlying225 (by kernel_rfl) (eF) (by omega) (by omega) ⟨rfl,trivial⟩ rfl rfl rfl ?_;intro g40 w8 n40;have e40:=Nat.le_trans ab.size n40.ge;have l40:=Nat.lt_of_lt_of_le k4.lt n40.ge;replace ab:=ab.step n40.below;replace k99:=k99.step n40.below;replace k1:=k1.step n40.below;replace k2:=k2.step n40.below;replace k3:=k3.step n40.below;replace k4:=k4.step n40.below;have k40:=n40.an;have pw8:PW K w8 (p+1) d false:=⟨by rw[Int.natCast_add];exact k99,pw.rd.below (ab.below (by omega) hle),hp1,pw.eo⟩;obtain⟨R,hR⟩:∃R,R=aT K.ws [fun p _=>eA K.ws p] (p+1) d:=⟨_,rfl⟩;rw[←hR] at hq;have hneR:R≠ .out:=Rs.fD (by rw[←hq];exact hne);have hgg4:K.g<g4:=by omega
  have hwi:=j2 K hK g4 [fun p _=>eA K.ws p] [(167,[Value.pointer (some ⟨g1,0,none⟩),Value.pointer (some ⟨g4,0,none⟩)])] (some ⟨g40,0,none⟩) 1
   (fun xs W=>Kp w8 W∧aH W g4 71 #[.int .i64 2, .string (strOf (xs.getD 0 [])), .slice none 0 0, .slice none 0 0]∧∀x∈xs,(∀c∈x,c<256)∧x.length≤4000) (p+1) d w8 pw8 (Nat.le_of_lt k4.lt) rfl (by simp)
   ⟨Kp.refl w8,k4,by simp⟩
   (fun xs W W' p d hM hp hf=>⟨hM.1.fz hp.an hf,hM.2.1.fz hf (by omega),hM.2.2⟩)
   (fun xs W j f cp hM hj=>by
    match j,hj with
    |0,hj=>
     simp at hj;obtain⟨e1,e2⟩:=hj;subst e1 e2;refine⟨_,rfl,?_⟩;have hb:=(hM.1.an k40).cell 0;exact hb
    |j+1,hj=>simp at hj)
   (fun j f cp hj=>by
    match j,hj with
    |0,hj=>
     simp at hj;obtain⟨e1,e2⟩:=hj;subst e1;exact BY
    |j+1,hj=>simp at hj)
   (fun j f cp one hj ho xs W p' hxl hpw hW hM hne1=>by
    match j,hj,ho,hxl with
    |0,hj,ho,hxl=>
     simp at hj ho;obtain⟨e1,e2⟩:=hj;subst e1 e2 ho;have hx0:xs=[]:=List.eq_nil_of_length_eq_zero hxl;subst hx0;exact(AH K hK g4 g4 g1 (d+1) p' 2 _ _ _ W hpw hgg4 (Nat.le_refl _) hW hM.2.1 (hM.1.an k1)).mono fun e W' hq=>hq.F8 fun a p v W' hr h=>⟨hM.1.trans h.1,h.2,fun x hx=>by simp at hx;subst hx;exact Bq hK hr⟩
    |j+1,hj,_,_=>simp at hj)
   (by rw[←hR];exact hneR)
  rw[←hR] at hwi;rcases Rs.dA hneR with ⟨q,ov,hr⟩|⟨xs,q,hr⟩
  ·rw[hr] at hwi hq
   refine Seq.cZ (Ze Tryz.func166) rfl hwi ?_;rintro e w9 ⟨hf,rfl,d6,hp6⟩;refine⟨_,rfl,fun a ha=>⟨ha.defers,?_⟩⟩;rw[hq];exact⟨ab.trans (hf.less (by omega)),rfl,d6,hp6⟩
  have hxl:=eE (hR.symm.trans hr)
  obtain⟨x,rfl⟩:∃x,xs=[x]:=by
   match xs,hxl with
   | [x],_=>exact⟨x,rfl⟩
  rw[hr] at hwi hq;replace hq:ee K.ws E0 T0 p d= .ok (.mk 2 x [] []) q:=hq;refine Zc (Ze Tryz.func166) (hwi) ?_;rintro e wq ⟨hf,v6,rfl,pwq,kpq,k4q,hxb⟩;have hxb:=hxb x (by simp);refine⟨_,rfl,?_⟩
  have k2q:aH wq g2 71 #[.int .i64 0, .string {data:= #[]}, .slice none 0 0, .slice none 0 0]:=by
   have h2:aH w8 g2 71 #[.int .i64 0, .string {data:= #[]}, .slice none 0 0, .slice none 0 0]:=k2;have h1:=hf.block g2 (by omega) (by omega);unfold aH at h2⊢;rw[h1];exact h2
  have belq:Fz w.heap.size K.g w wq:=ab.trans (hf.less (by omega));clear ab k1 k2 k3 k4 k40 k99;have ab:=belq;have k2:=k2q;have k4:aH wq g4 71 #[.int .i64 2, .string (strOf x), .slice none 0 0, .slice none 0 0]:=k4q;have hlt2:=k2.lt;refine dY 0 1 2 3 4 13 17 18 28 (aB ?_);refine ZW 4 Tryz.underlying71 k4 ?_;refine Zo 4 k2 ?_;intro w9 pw9;replace ab:=ab.put k2 pw9 e2;replace k4:=k4.put pw9 (by omega);replace k2:=pw9.an;refine dY 0 1 2 3 4 13 17 18 28 (Zt (Cd.ret (ae.ag (ae.af ?_))));refine gp 4 k2 Tryz.underlying71 ?_;rw[hq];exact⟨ab,_,rfl,⟨pwq.an.put pw9 (by omega),pw.rd.below (ab.below (by omega) hle),pwq.bJ,pwq.eo⟩,fun _=>False,dr.mk (es:=[]) (ts:=[]) (vs:=[]) (us:=[]) rfl rfl (by simp) (by simp) (by unfold bm;omega) hxb.1 (by have:=hxb.2;omega) (fun i e v h=>by simp at h) (fun i e v h=>by simp at h) (fun h=>absurd rfl h) (fun h=>absurd rfl h),fun b hb=>hb.elim⟩
 rw[if_neg c3] at hq;refine Cd.skip (ae.ah (aB ?_));refine Zf 1 Tryz.underlying221 ?_;refine ZL Tryz.underlying9 k3 ?_;refine Zc (Ze Tryz.func169) (hterms _) ?_;rintro e w6 ⟨rfl,hb6⟩;refine⟨_,rfl,?_⟩;replace ab:=ab.step hb6;replace k99:=k99.step hb6;replace k1:=k1.step hb6;replace k2:=k2.step hb6;replace k3:=k3.step hb6;replace k4:=k4.step hb6;refine Zm ?_;refine Zx ?_;refine Zx ?_;refine Zx ?_;refine Za ?_;refine Za ?_;refine Za ?_;refine fY 0 1 2 3 4 5 6 7 13 17 18 28 (aI (aj ?_));refine Zm ?_;refine bC ?_;refine iq 0 1 2 3 4 5 6 7 13 17 18 28 51 (Zt ?_);refine Cd.ak rfl (fun c4=> ?_) (fun c4=> ?_)
 ·rw[if_pos c4] at hq
  refine Zr ?_;refine ZL Tryz.underlying189 k1 ?_;refine Seq.cZ (Ze Tryz.func165) rfl (jL K.g _) ?_;rintro e w7 ⟨rfl,hb7⟩;refine⟨_,rfl,fun a ha=>⟨ha.defers,?_⟩⟩;rw[hq];exact⟨ab.step hb7,rfl,d,pw.to hle (ab.step hb7) (k99.step hb7)⟩
 rw[if_neg c4] at hq;refine Cd.skip (aB ?_);refine ZL Tryz.underlying189 k1 ?_;refine Zv (aa.nilCheck rfl rfl) ?_;refine Zf 1 Tryz.underlying219 ?_;refine ZL Tryz.underlying3 k99 ?_;refine cG ?_;refine Zv (aa.nilCheck rfl rfl) ?_;refine Zf 1 Tryz.underlying219 ?_;refine Zq k99 ?_;intro w6 pw6;replace ab:=ab.put k99 pw6 e99;replace k1:=k1.put pw6 (by omega);replace k2:=k2.put pw6 (by omega);replace k3:=k3.put pw6 (by omega);replace k4:=k4.put pw6 (by omega);replace k99:=pw6.an;refine iq 0 1 2 3 4 5 6 7 13 17 18 28 51 (aB ?_);refine Zm ?_;refine Zf 0 Tryz.underlying71 ?_;refine Zq k4 ?_;intro w7 pw7;replace ab:=ab.put k4 pw7 e4;replace k99:=k99.put pw7 (by omega);replace k1:=k1.put pw7 (by omega);replace k2:=k2.put pw7 (by omega);replace k3:=k3.put pw7 (by omega);replace k4:=pw7.an;refine iq 0 1 2 3 4 5 6 7 13 17 18 28 51 (aB ?_);refine Za ?_;refine jO 0 1 2 3 4 5 6 7 8 13 17 18 28 51 (aI (aj ?_));refine Zm ?_;refine Zm ?_;refine nM 0 1 2 3 4 5 6 7 8 13 17 18 28 51 63 64 (Zt (Cd.block ?_));have pwl:PW K w7 (p+1) d false:=⟨by rw[Int.natCast_add];exact k99,pw.rd.below (ab.below (by omega) hle),hp1,pw.eo⟩;have k1o:=k1;have k2o:=k2;have k4o:=k4;have bel0:=ab;have hs0:=ab.size;have hk4l:=k4.lt;replace ab:=Below.refl w7.heap.size w7;have own:=Own.nil w7 w7.heap.size 1 1;have bx:pG K g4 [] w7:=fun x hx=>by simp at hx
 refine Cd.loop (σ:=Nat × Value × List (Nat × Nat × Nat)) (fun s=>[(1, .pointer (some ⟨g1,0,none⟩)),(2, .pointer (some ⟨g2,0,none⟩)),(4, .pointer (some ⟨g4,0,none⟩)),(7, .int .i64 (ns:Int)),(8,s.2.1),(63, .int .i64 (ne:Int)),(64, .int .i64 (s.1:Int))])
  (fun s wr=>s.1≤ne∧Below w7.heap.size w7 wr∧s.2.2.map (·.1)=List.replicate s.1 211∧pG K g4 s.2.2 wr∧Own wr w7.heap.size 1 1 s.2.1 (s.1) (s.2.2.map sB)) (fun s=>ne-s.1) (0, .slice none 0 0,[]) ⟨Nat.zero_le _,ab,rfl,bx,own⟩ ⟨rfl,rfl,rfl,rfl,rfl,rfl,rfl,trivial⟩ ?_
 clear k1 k2 k3 k4 k99;clear ab own bx;rintro⟨i,v,L⟩ wr ⟨hi,ab,hL,bx,own⟩;dsimp only at hi hL bx own⊢;have k1:=k1o.step ab;refine aj ?_;refine eI ?_;refine cB 1 2 4 7 8 63 64 65 (aI ?_);refine Cd.ak rfl (fun hc=> ?_) (fun hc=> ?_)
 ·skip
  refine Cd.skip (aI (Cd.block (Zr ?_)));refine Zm ?_;refine ZL Tryz.underlying189 k1 ?_;refine Zc (Ze Tryz.func170) (yZ K g4 _) ?_;rintro e w8 ⟨⟨a,b,rfl,hbx⟩,hb8⟩;refine⟨_,rfl,?_⟩;replace ab:=ab.step hb8;replace own:=own.step hb8;replace bx:=bx.step hb8;replace k1:=k1.step hb8;replace bx:=bx.snoc hbx;refine Seq.slice (vs:=[_]) (s:=1) rfl rfl rfl Tryz.underlying225 (by kernel_rfl) (eF) (by omega) (by omega) ⟨rfl,trivial⟩ rfl rfl rfl ?_;intro g69 w8 n69;have e69:=Nat.le_trans ab.size n69.ge;have l69:=Nat.lt_of_lt_of_le k1.lt n69.ge;replace ab:=ab.step n69.below;replace own:=own.step n69.below;replace bx:=bx.step n69.below;replace k1:=k1.step n69.below;have k69:=n69.an;refine Seq.append rfl rfl rfl Tryz.underlying225 (by kernel_rfl) eF rfl (by decide) (b:=8) (by kernel_rfl) own (Reads.an k69 1 rfl) (by intro x hx;simp[aN,Value.cells,sB] at hx;rw[hx];rfl) ab.size (by simp only[maxLen];omega) (by omega) rfl rfl rfl ?_;intro v2 wa own2 ha;replace bx:=bx.app own ha;replace ab:=ab.trans ha.below;clear own k1 k69;refine Za ?_;refine cB 1 2 4 7 8 63 64 65 (ae.ah (eh ?_));refine cG ?_;refine Zm ?_;refine cB 1 2 4 7 8 63 64 65 ?_;refine ae.round (i+1,v2,L++[(211,a,b)]) ⟨rfl,rfl,rfl,rfl,rfl,rfl,rfl,trivial⟩ ⟨by dsimp only;omega,ab,?_,bx,?_⟩ (by dsimp only;omega)
  ·dsimp only
   rw[List.map_append,hL,List.replicate_succ'];rfl
  ·dsimp only
   rw[List.map_append];exact own2
 obtain rfl:i=ne:=by omega
 refine Cd.exit (ae.aC (ae.aA (ae.ay (aI (aj ?_)))));refine Zm ?_;refine Zm ?_;refine dq 1 2 4 7 8 63 64 65 72 73 (Zt (Cd.block ?_))
 refine Cd.loop (σ:=Nat × Value × List (Nat × Nat × Nat)) (fun s=>[(1, .pointer (some ⟨g1,0,none⟩)),(2, .pointer (some ⟨g2,0,none⟩)),(4, .pointer (some ⟨g4,0,none⟩)),(7, .int .i64 (ns:Int)),(8,s.2.1),(72, .int .i64 (ns:Int)),(73, .int .i64 (s.1:Int))])
  (fun s wr=>s.1≤ns∧Below w7.heap.size w7 wr∧s.2.2.map (·.1)=List.replicate i 211++List.replicate s.1 212∧pG K g4 s.2.2 wr∧Own wr w7.heap.size 1 1 s.2.1 (i+s.1) (s.2.2.map sB)) (fun s=>ns-s.1) (0,v,L) ⟨Nat.zero_le _,ab,by simpa using hL,bx,own⟩ ⟨rfl,rfl,rfl,rfl,rfl,rfl,rfl,trivial⟩ ?_
 clear k1;clear ab own bx;rintro⟨j,v,L⟩ wr ⟨hj,ab,hL,bx,own⟩;dsimp only at hj hL bx own⊢;have k1:=k1o.step ab;refine aj ?_;refine eI ?_;refine cB 1 2 4 7 8 72 73 74 (aI ?_);refine Cd.ak rfl (fun hc=> ?_) (fun hc=> ?_)
 ·skip
  refine Cd.skip (aI (Cd.block (Zr ?_)));refine Zm ?_;refine ZL Tryz.underlying189 k1 ?_;refine Zc (Ze Tryz.func171) (Cu K g4 _) ?_;rintro e w8 ⟨⟨a,b,rfl,hbx⟩,hb8⟩;refine⟨_,rfl,?_⟩;replace ab:=ab.step hb8;replace own:=own.step hb8;replace bx:=bx.step hb8;replace k1:=k1.step hb8;replace bx:=bx.snoc hbx;refine Seq.slice (vs:=[_]) (s:=1) rfl rfl rfl Tryz.underlying225 (by kernel_rfl) (eF) (by omega) (by omega) ⟨rfl,trivial⟩ rfl rfl rfl ?_;intro g78 w8 n78;have e78:=Nat.le_trans ab.size n78.ge;have l78:=Nat.lt_of_lt_of_le k1.lt n78.ge;replace ab:=ab.step n78.below;replace own:=own.step n78.below;replace bx:=bx.step n78.below;replace k1:=k1.step n78.below;have k78:=n78.an;refine Seq.append rfl rfl rfl Tryz.underlying225 (by kernel_rfl) eF rfl (by decide) (b:=8) (by kernel_rfl) own (Reads.an k78 1 rfl) (by intro x hx;simp[aN,Value.cells,sB] at hx;rw[hx];rfl) ab.size (by simp only[maxLen];omega) (by omega) rfl rfl rfl ?_;intro v2 wa own2 ha;replace bx:=bx.app own ha;replace ab:=ab.trans ha.below;clear own k1 k78;refine Za ?_;refine cB 1 2 4 7 8 72 73 74 (ae.ah (eh ?_));refine cG ?_;refine Zm ?_;refine cB 1 2 4 7 8 72 73 74 ?_;refine ae.round (j+1,v2,L++[(212,a,b)]) ⟨rfl,rfl,rfl,rfl,rfl,rfl,rfl,trivial⟩ ⟨by dsimp only;omega,ab,?_,bx,?_⟩ (by dsimp only;omega)
  ·dsimp only
   rw[List.map_append,hL,List.replicate_succ',List.append_assoc];rfl
  ·dsimp only
   rw[List.map_append];exact own2
 obtain rfl:j=ns:=by omega
 refine Cd.exit (ae.aC (ae.aA (ae.ay (aB ?_))));refine ZL Tryz.underlying189 k1 ?_;refine Zm ?_;have hsr:=ab.size;have pw9:=pwl.step hle ab;have k4:=k4o.step ab;have k2:=k2o.step ab;have hgg4:K.g<g4:=by omega
 obtain⟨AP,cP,rfl,-⟩:=own.reads;obtain⟨R,hR⟩:∃R,R=aT K.ws (eO E0 T0 i j) (p+1) d:=⟨_,rfl⟩;rw[←hR] at hq;have hneR:R≠ .out:=Rs.fD (by rw[←hq];exact hne);obtain⟨h1i,h2j,hop64⟩:=hbd
 have hLl:L.length=i+j:=by
  have:=congrArg List.length hL
  simpa using this
 have hol:(eO E0 T0 i j).length=i+j:=by unfold eO;simp
 have hexl:∀xs:List Part,(cU xs).length≤xs.length∧(bY xs).length≤xs.length:=fun xs=>⟨List.length_filterMap_le _ _,List.length_filterMap_le _ _⟩;have hfl:(L.map fun x=>(x.1,[Value.pointer (some ⟨x.2.1,0,none⟩),Value.pointer (some ⟨x.2.2,0,none⟩)])).length=i+j:=by rw[List.length_map,hLl]
 have hget:∀ {q f:Nat} {cp:List Value},(L.map fun x=>(x.1,[Value.pointer (some ⟨x.2.1,0,none⟩),Value.pointer (some ⟨x.2.2,0,none⟩)]))[q]? =some (f,cp)→∃x,L[q]? =some x∧x∈L∧f=x.1∧cp=[Value.pointer (some ⟨x.2.1,0,none⟩),Value.pointer (some ⟨x.2.2,0,none⟩)]:=fun {q f cp} h=>by
  rw[List.getElem?_map] at h
  cases hx:L[q]? with
  |none=>rw[hx] at h;cases h
  |some x=>
   rw[hx] at h;injection h with h
   injection h with e1 e2
   exact⟨x,rfl,List.mem_of_getElem? hx,e1.symm,e2.symm⟩
 have hfid:∀ {q:Nat} {x:Nat × Nat × Nat},L[q]? =some x→(q<i∧x.1=211)∨(i≤q∧x.1=212):=fun {q x} hx=>by
  have h1:(L.map (·.1))[q]? =some x.1:=by rw[List.getElem?_map,hx];rfl
  rw[hL] at h1;rcases Nat.lt_or_ge q i with hqi|hqi
  ·rw[List.getElem?_append_left (by simpa using hqi),List.getElem?_replicate,if_pos hqi] at h1
   injection h1 with h1
   exact .inl ⟨hqi,h1.symm⟩
  ·rw[List.getElem?_append_right (by simpa using hqi),List.length_replicate] at h1
   have hlt:=(List.getElem?_eq_some_iff.1 h1).1;rw[List.length_replicate] at hlt;rw[List.getElem?_replicate,if_pos hlt] at h1;injection h1 with h1
   exact .inr ⟨hqi,h1.symm⟩
 have hone:∀ {q:Nat} {one:Nat→Nat→Rs Part},(eO E0 T0 i j)[q]? =some one→(q<i→one=fun p d=>(E0 p d).map .inl)∧(i≤q→one=fun p d=>(T0 p d).map .inr):=fun {q one} h=>by
  unfold eO at h;refine⟨fun hqi=> ?_,fun hqi=> ?_⟩
  ·rw[List.getElem?_append_left (by simpa using hqi),List.getElem?_replicate,if_pos hqi] at h
   injection h with h
   exact h.symm
  ·rw[List.getElem?_append_right (by simpa using hqi),List.length_replicate] at h
   have hlt:=(List.getElem?_eq_some_iff.1 h).1;rw[List.length_replicate] at hlt;rw[List.getElem?_replicate,if_pos hlt] at h;injection h with h
   exact h.symm
 have hwi:=j2 K hK g4 (eO E0 T0 i j) (L.map fun x=>(x.1,[Value.pointer (some ⟨x.2.1,0,none⟩),Value.pointer (some ⟨x.2.2,0,none⟩)])) AP cP
  (fun xs W=>Kp wr W∧∃evs tvs vE vT S,aH W g4 71 #[.int .i64 op, .string (strOf []),vE,vT]∧dw W g4 g4 (cU xs) (bY xs) evs tvs vE vT S) (p+1) d wr pw9 (Nat.le_of_lt k4.lt) (by rw[hfl,hol]) (by rw[hol];omega)
  ⟨Kp.refl wr,[],[],_,_,_,k4,dw.nil wr g4 g4⟩
  (fun xs W W' p d hM hp hf=>by
   obtain⟨kp,evs,tvs,vE,vT,S,kt,aq⟩:=hM;exact⟨kp.fz hp.an hf,evs,tvs,vE,vT,S,kt.fz hf (by omega),aq.fz hf hgg4⟩)
  (fun xs W q f cp hM hj=>by
   obtain⟨kp,-⟩:=hM;obtain⟨x,hx,hxm,rfl,rfl⟩:=hget hj;obtain⟨A',c',hv,hr⟩:=(kp.own own).reads;injection hv with hv _ _
   subst hv;have hql:=(List.getElem?_eq_some_iff.1 hx).1;obtain⟨ad,hA,-,hc⟩:=hr.2 (by omega);exact⟨ad,hA,hc q _ (by rw[List.getElem?_map,hx];rfl)⟩)
  (fun q f cp hj=>by
   obtain⟨x,hx,hxm,rfl,rfl⟩:=hget hj;rcases hfid hx with ⟨-,e⟩|⟨-,e⟩
   ·rw[e];exact Eh
   ·rw[e];exact Fv)
  (fun q f cp one hj ho xs W p' hxl hpw hW hM hne1=>by
   obtain⟨x,hx,hxm,rfl,rfl⟩:=hget hj;have hql:=(List.getElem?_eq_some_iff.1 hx).1;obtain⟨o1,o2⟩:=hone ho;obtain⟨kp,evs,tvs,vE,vT,S,kt,aq⟩:=hM;obtain⟨bx1,bx2⟩:=bx x hxm;obtain⟨l1,l2⟩:=hexl xs;rcases hfid hx with ⟨hqi,e⟩|⟨hqi,e⟩
   ·have ho1:=o1 hqi
    subst ho1;have hne2:E0 p' (d+1)≠ .out:=Rs.fD hne1;rw[e]
    exact(yY K hK g4 g4 x.2.1 x.2.2 (d+1) p' op [] (cU xs) (bY xs) evs tvs vE vT S E0 W hpw hgg4 (Nat.le_refl _) hW kt (kp.an bx1) (kp.an bx2) aq (by omega) (fun W' h1 _=>hE p' (d+1) W' h1 hne2) hne2).mono fun e W' hq=>hq.map fun a v W' h=>⟨kp.trans h.1,by
     have e1:cU (xs++[.inl a])=cU xs++[a]:=by unfold cU;rw[List.filterMap_append];rfl
     have e2:bY (xs++[.inl a])=bY xs:=by unfold bY;rw[List.filterMap_append];simp
     rw[e1,e2];exact h.2⟩
   ·have ho2:=o2 hqi
    subst ho2;have hne2:T0 p' (d+1)≠ .out:=Rs.fD hne1;rw[e]
    exact(Bl K hK g4 g4 x.2.1 x.2.2 (d+1) p' op [] (cU xs) (bY xs) evs tvs vE vT S T0 W hpw hgg4 (Nat.le_refl _) hW kt (kp.an bx1) (kp.an bx2) aq (by omega) (fun W' h1 _=>hT p' (d+1) W' h1 hne2) hne2).mono fun e W' hq=>hq.map fun a v W' h=>⟨kp.trans h.1,by
     have e1:cU (xs++[.inr a])=cU xs:=by unfold cU;rw[List.filterMap_append];simp
     have e2:bY (xs++[.inr a])=bY xs++[a]:=by unfold bY;rw[List.filterMap_append];rfl
     rw[e1,e2];exact h.2⟩)
  (by rw[←hR];exact hneR)
 rw[←hR,hfl] at hwi;rcases Rs.dA hneR with ⟨q,ov,hr⟩|⟨xs,q,hr⟩
 ·rw[hr] at hwi hq
  refine Seq.cZ (Ze Tryz.func166) rfl hwi ?_;rintro e w9 ⟨hf,rfl,d6,hp6⟩;refine⟨_,rfl,fun a ha=>⟨ha.defers,?_⟩⟩;rw[hq];exact⟨(bel0.step ab).trans (hf.less (by omega)),rfl,d6,hp6⟩
 have hxl:=eE (hR.symm.trans hr);rw[hol] at hxl;obtain⟨l1,l2⟩:=hexl xs;rw[hr] at hwi hq;replace hq:ee K.ws E0 T0 p d= .ok (.mk op [] (cU xs) (bY xs)) q:=hq;refine Zc (Ze Tryz.func166) (hwi) ?_;rintro e wq ⟨hf,v6,rfl,pwq,kpq,evs,tvs,vE,vT,S,k4q,aqq⟩;refine⟨_,rfl,?_⟩
 have k2q:aH wq g2 71 #[.int .i64 0, .string {data:= #[]}, .slice none 0 0, .slice none 0 0]:=by
  have h2:aH wr g2 71 #[.int .i64 0, .string {data:= #[]}, .slice none 0 0, .slice none 0 0]:=k2;have h1:=hf.block g2 (by omega) (by omega);unfold aH at h2⊢;rw[h1];exact h2
 have belq:Fz w.heap.size K.g w wq:=(bel0.step ab).trans (hf.less (by omega));have hrep:=aqq.tm op [] hop64 (by simp) (by simp) (by omega) (by omega);have hbn:=aqq.bounds;obtain⟨AE,cE,hvE,-⟩:=aqq.fB.reads;obtain⟨AT,cT,hvT,-⟩:=aqq.fO.reads;subst hvE hvT;clear ab k1 k2 k4;have ab:=belq;have k2:=k2q;have k4:=k4q;have hlt2:=k2.lt;refine cB 1 2 4 7 8 72 73 74 (aB ?_);refine ZW 4 Tryz.underlying71 k4 ?_;refine Zo 4 k2 ?_;intro w8 pw8;replace ab:=ab.put k2 pw8 e2;replace k4:=k4.put pw8 (by omega);replace k2:=pw8.an;refine cB 1 2 4 7 8 72 73 74 (Zt (Cd.ret ?_));refine gp 4 k2 Tryz.underlying71 ?_;rw[hq];have hsz:=pw8.size;refine⟨ab,_,rfl,⟨pwq.an.put pw8 (by omega),pw.rd.below (ab.below (by omega) hle),pwq.bJ,pwq.eo⟩,_,hrep.mono (fun _ h=>h) (fun a ha=>World.cell?_of_block (pw8.grown.block _ (hbn _ ha).2.1 (fun e=>by injection e with e;have:=(hbn _ ha).1;omega))),fun b hb=> ?_⟩;obtain⟨h1,h2,-⟩:=hbn b hb;exact⟨by omega,by omega⟩
theorem ur (K:Ctx)(hK:K.Ok):∀n,FW K (ja K.ws n)
 |0=>fun p d W _ h=>absurd rfl h
 |n+1=>fun p d W hp hne=>Cq K hK ((bH K.ws (n+1)).E 0) (ja K.ws n) (fun p d W hp hne=>(D3 K hK (n+1) (n+1) (Nat.le_refl _)).2 0 (by omega) p d W hp hne) (ur K hK n) p d W hp hne
theorem xt (g:Nat)(w:World):CallsD Tryz.prog 207 #[.pointer (some ⟨g,0,none⟩)] .returning w fun e u' w'=>e= .returned (.tuple #[])∧u'= .returning∧w'=w:=by
 refine callsD_of_wpS Tryz.func207 rfl fun c₀ cs hu=> ?_;apply wpS_seq;apply wpS_region;simp[wpOpsS,go_sem,recoverD,hu,Tryz.ntmps207,Exit.thenS];apply wpS_seq;apply wpS_region;simp[wpOpsS,go_sem,recoverD,hu,Exit.thenS,Tryz.underlying20];refine wpS_cond (t:=false) (by simp[Act.eval,Array.replicate]) ?_;simp only[Bool.false_eq_true,if_false];refine wpS_of_wp (wp_skip ?_)
 cases c₀
 simp_all [bodyPostS,results,Tryz.results207]
theorem pF:bW Tryz.prog 261=some (some (.agg #[])):=by kernel_rfl
theorem aa.typeAssert {P:Program}{E:Operand→Option Value}{o:Oper}{w:World}{x:Operand}{T T':TypeId}{b:Bool}{v u:Value}(ho:o.op= .typeAssert x T T' b)(hx:E x=some v)(hr:(Instr.typeAssert v T T' b).run P w= .ok u w):aa P E o w u w:=fun ρ h=>by
 unfold execOp;simp only[ho];rw[h _ _ hx];simp only[Sem.run_bind,hr,Result.andThen_ok];rfl
theorem Cd.at_ {P:Program}{c:Code}{Q:Exit→Act→World→Prop}{n:Nat}{F:List (Nat × Value)}{w:World}{a:Act}(h:Cd P c Q n F w)(ha:Fr n F a):c.wp P Q a w:=h a ha
theorem xp (g:Nat)(b:Bool)(w:World)(hb:aH w g 4 #[.bool b]):CallsD Tryz.prog 207 #[.pointer (some ⟨g,0,none⟩)] (.panicking n0) w fun e u' w'=>
  e= .returned (.tuple #[])∧u'= .panicking [{v:= .iface 261 (.agg #[]),recovered:=true}]∧aH w' g 4 #[.bool false]∧w.grownBy w' (some g):=by
 refine callsD_of_wpS Tryz.func207 rfl fun c₀ cs hu=> ?_;unfold n0 at hu;apply wpS_seq;apply wpS_region;simp[wpOpsS,go_sem,recoverD,hu,Tryz.ntmps207,Exit.thenS];apply wpS_seq;apply wpS_region;simp[wpOpsS,go_sem,recoverD,hu,Exit.thenS,Tryz.underlying20];refine wpS_cond (t:=true) (by simp[Act.eval,Array.replicate]) ?_;simp only[if_true];refine wpS_of_wp ?_;refine Cd.at_ (n:=15) (F:=[(0, .pointer (some ⟨g,0,none⟩)),(1, .iface 261 (.agg #[]))]) ?_ ⟨by simp,rfl,fun t v ht=> ?_⟩
 ·refine Cd.seq ?_
  refine aj ?_;refine Zm ?_;refine Zv (aa.typeAssert (u:= .tuple #[.agg #[], .bool true]) rfl rfl (by kernel_rfl)) ?_;refine Zm ?_;refine Zx ?_;refine Zx ?_;refine Zl pF ?_;intro g2 w1 n2;have hb1:=hb.step n2.below;refine Seq.km (m:=0) rfl rfl rfl rfl (by kernel_rfl) rfl trivial n2.an (by simp[Value.cells]) rfl rfl ?_;intro w2 p2;have hne:g≠g2:=by have:=hb.lt;have:=n2.ge;omega
  have hb2:=hb1.put p2 hne;refine Za ?_;refine Seq.nil (aB ?_);refine Zm ?_;refine mD ?_;refine Seq.nil (Zt ?_);refine Cd.aM rfl rfl ?_;refine Cd.skip (eh ?_);refine Zq hb2 ?_;intro w3 p3;refine Seq.nil ?_;intro a ha
  have hgr:w.grownBy w3 (some g):=by
   have h1:w.grownBy w1 (some g):=⟨n2.below.os,n2.below.tape,n2.below.output,n2.below.size,fun k hk _=>n2.below.block k hk⟩;have h2:w1.heap.size=w2.heap.size:=p2.size.symm;refine⟨p3.grown.os.trans (p2.grown.os.trans h1.os),p3.grown.tape.trans (p2.grown.tape.trans h1.tape),p3.grown.output.trans (p2.grown.output.trans h1.output),by have:=h1.size;have:=p2.size;have:=p3.size;omega,fun k hk hne2=> ?_⟩;have hge:=n2.ge;have hs1:=h1.size;rw[p3.grown.block k (by omega) hne2,p2.grown.block k (by omega) (fun e=>by injection e with e;omega)];exact h1.block k hk hne2
  refine⟨ha.defers,_,?_, .tuple #[],?_,rfl,rfl,p3.an,hgr⟩
  ·cases c₀
   simp_all
  ·exact results_none rfl _ _ _
 rcases bZ ht with ⟨rfl,rfl⟩|⟨-,ht⟩
 ·simp
 rcases bZ ht with ⟨rfl,rfl⟩|⟨-,ht⟩
 ·simp
 cases ht
def m8 (g:FuncId)(cap:List Value):Deferred:= {target:= .fn (.func g) cap.toArray,args:= #[]}
theorem Seq.EM {P:Program}{ops:Array Oper}{Q:Exit→Act→World→Prop}{rest:List Oper}{o:Oper}{n t:Nat}{F:List (Nat × Value)}{w:World}{g:FuncId}{cap:List Value}{ts:Array TypeId}(ho:o.op= .defer {callee:= .value (.tmp t),args:= #[],argTypes:=ts}) (hx:eT F (.tmp t)=some (.func (.func g) #[] cap.toArray)) (hg:o.guard=none) (hd:o.dst=none)
  (h:∀I:Inhabited (List Deferred),I.default=[m8 g cap]→ @Seq I P ops Q rest n F w):Seq P ops Q (o::rest) n F w:=by
 intro a ha;refine wpList_plain hg fun K hK=> ?_
 have hr:(execOp a.eval o).run P w= .ok (.defer (m8 g cap)) w:=by
  unfold execOp;have hf:a.eval (.tmp t)= .func (.func g) #[] cap.toArray:=ha.ev _ _ hx;simp only[ho,resolve,hf,Deferred.ofValue,Sem.run_bind,Sem.run_pure,Result.andThen_ok];simp[m8]
 unfold Oper.wp;rw[hr,Oper.upon_defer,hd];have hD:m8 g cap::a.defers=[m8 g cap]:=by rw[ha.defers];rfl
 exact hK _ _ (h ⟨[m8 g cap]⟩ rfl _ (@Fr.mk ⟨[m8 g cap]⟩ n F _ ha.size hD ha.slot))
theorem nQ {P:Program}{fn:Func}{p g:Nat}{ty t:TypeId}{b:Bool}{w:World}(h:fn.results= #[.cell p ty]) (tmps:Array Value) (hp:tmps[p]? =some (.pointer (some ⟨g,0,none⟩))) (hu:P.underlying ty=some .bool) (hb:aH w g t #[.bool b]):(results fn tmps).run P w= .ok (.bool b) w:=by
 have hagg:(isAgg ty).run P w= .ok false w:=by
  unfold isAgg;rw[Sem.run_bind,run_underlying hu w];rfl
 have hc:w.cell? ⟨g,0,none⟩=some (.bool b):=by rw[hb.cell 0];rfl
 simp[results,h,hp,asAddr,loadVar,Sem.run_bind,hagg,go_sem,hc]
def Gq {α:Type}(K:Ctx)(h:Nat)(w:World)(r:Rs α)(okv:α→World→Prop)(e:Ending)(w':World):Prop:=
 Fz h K.g w w'∧Kp w w'∧match r with
 | .out=>False
 | .bad p ov=>e= .returned (.bool false)∧∃d,PW K w' p d ov
 | .ok a p=>e= .returned (.bool (decide (p=K.ws.length)))∧(∃d,PW K w' p d false)∧okv a w'
def Ga {α:Type}(K:Ctx)(h:Nat)(W:World)(r:Rs α)(okv:α→World→Prop)(e:Ending)(W':World):Prop:=match r with
 | .out=>False
 | .bad p ov=>Fz W.heap.size K.g W W'∧e= .panicked n0∧∃d,PW K W' p d ov
 | .ok a p=>Fz h K.g W W'∧Kp W W'∧(∃v,e= .returned v)∧PW K W' p 0 false∧okv a W'
theorem CG {α:Type}(K:Ctx)(hK:K.Ok)(f:Nat)(cp:List Value)(h:Nat)(r:Rs α)(okv:World→α→World→Prop)(ok2:α→World→Prop)(w:World)(pw:PW K w 0 0 false)(hh:h≤w.heap.size)(hne:r≠ .out)(eg:∀args w,(callFunc f args).run Tryz.prog w= .ok (.enter f args) w)
  (hok:∀a W0 W W' g,okv W0 a W→w.heap.size≤g→g<W0.heap.size→W0.heap.size≤W.heap.size→W.heap.size≤W'.heap.size→(∀k,k<W.heap.size→k≠g→W'.heap[k]? =W.heap[k]?)→ok2 a W')
  (hc:∀W,Below w.heap.size w W→PW K W 0 0 false→Calls Tryz.prog f cp.toArray W (Ga K h W r (okv W))):
  Calls Tryz.prog 162 #[.pointer (some ⟨K.g,0,none⟩), .func (.func f) #[] cp.toArray] w (Gq K h w r ok2):=by
 have ab:=Below.refl w.heap.size w;have hle:=hK.le;have hlt:=pw.an.lt;have hen:∀args w,(callFunc 207 args).run Tryz.prog w= .ok (.enter 207 args) w:=fun args w=>bG Tryz.func207 (by kernel_rfl) rfl args w;refine Calls.BB 18 Tryz.func162 rfl rfl rfl ?_;refine aj ?_;refine Zl oF ?_;intro g4 w1 n4;have e4:=Nat.le_trans ab.size n4.ge;replace ab:=ab.step n4.below;have k4:=n4.an;refine bn 0 1 4 (aB ?_);refine Zv (aa.makeFunc (v:= .func (.func 207) #[] #[.pointer (some ⟨g4,0,none⟩)]) rfl (show jn _ _=some [] from rfl) (show jn _ _=some [.pointer (some ⟨g4,0,none⟩)] from rfl) rfl) ?_;refine Seq.EM (cap:=[.pointer (some ⟨g4,0,none⟩)]) rfl rfl rfl rfl ?_;intro I hI;have hcl:=hc _ ab (pw.step hle ab);have hltc:=k4.lt;have kp:Kp w w1:=(Kp.refl w).step ab;have hs1:=ab.size;refine bn 0 1 4 (aB ?_);refine Zm ?_;rcases Rs.dA hne with ⟨q,ov,hr⟩|⟨x,q,hr⟩
 ·rw[hr] at hcl⊢
  refine Seq.cZ (Enters.value (first:=[]) (cap:=cp) rfl rfl rfl eg) rfl hcl ?_;rintro e w6 ⟨hf,rfl,d6,hp6⟩;refine⟨_,rfl,fun a ha=> ?_⟩;have k46:=k4.fz hf (by omega);show Leaves Tryz.prog _ a.tmps _ a.defers (.panicking n0) w6;rw[ha.defers,hI];refine leaves_cons (by simp) (f:=207) (args:= #[.pointer (some ⟨g4,0,none⟩)]) (by simp[invoke,hen]) ((xp g4 false w6 k46).mono fun e u' w' ⟨h1,h2,h3,h4⟩=> ?_);subst h1 h2;have hfw:Fz h K.g w w6:=(Fz.of (ab.mono hh)).trans (hf.less (by omega))
  have hg4:Fz h K.g w6 w':=⟨h4.os,h4.tape,h4.output,h4.size,fun k hk _=>by
   have:=hf.size;exact h4.block k (by omega) (fun e=>by injection e with e;omega)⟩
  have kp6:Kp w w6:=kp.fz (pw.step hle ab).an hf;refine⟨_,nQ rfl a.tmps (ha.slot 4 _ rfl) Tryz.underlying4 h3,hfw.trans hg4,⟨Nat.le_trans kp6.size h4.size,fun k t cs hb h1 h2 h3'=>(kp6.eQ k t cs hb h1 h2 h3').grown h4 (fun e=>by injection e with e;have:=hb.lt;omega)⟩,rfl,d6,hp6.an.grown h4 (fun e=>by injection e with e;omega),hp6.rd.below ⟨h4.os,h4.tape,h4.output,h4.size,fun k hk=>h4.block k (by have:=hp6.an.lt;omega) (fun e=>by injection e with e;omega)⟩,hp6.bJ,hp6.eo⟩
 rw[hr] at hcl⊢;refine Seq.call (Enters.value (first:=[]) (cap:=cp) rfl rfl rfl eg) rfl rfl rfl hcl ?_;rintro e wq ⟨hf,kpq,⟨v,rfl⟩,pwq,hov⟩;refine⟨_,rfl,?_⟩;have hbel1:=ab;clear ab;have hfw:Fz h K.g w wq:=(Fz.of (hbel1.mono hh)).trans hf;have kp6:=kp.trans kpq;have k46:=kpq.an k4;have hg4:g4≠K.g:=by omega
 clear k4;have k4:=k46;have k99:=pwq.an;have ab:=Below.refl wq.heap.size wq;have loc:=Fz.refl wq.heap.size g4 wq;have e4':g4=g4:=rfl;refine bn 0 1 4 (aI ?_);refine ff 10 ?_;intro w2 hw2 zw2;replace ab:=ab.step hw2;replace k99:=k99.step hw2;replace k4:=k4.step hw2;have zbel:=ab.size;have zlt:=k4.lt;refine cf ?_;refine Zd (fun w hG=>aa.nilCheck rfl rfl) ?_;refine eV 1 Tryz.underlying219 ?_;refine dZ Tryz.underlying3 k99 ?_;refine cf ?_;refine Zd (fun w hG=>aa.nilCheck rfl rfl) ?_;refine eV 0 Tryz.underlying219 ?_;refine dZ Tryz.underlying215 k99 ?_;refine Zd (fun w hG=>aa.len rfl rfl Tryz.underlying215) ?_;refine Zd (fun w hG=>aa.fh rfl rfl rfl) ?_;refine Dr.nil ?_;refine bb.done (F':=[(0,_),(1,_),(4,_),(17,_)]) rfl ⟨rfl,rfl,rfl,rfl,trivial⟩ ?_;intro w3 hw3 fw3;replace ab:=ab.step hw3;replace k99:=k99.step hw3;replace k4:=k4.step hw3;have hbw:=ab;have hsw:=ab.size;have hlt4:=k4.lt;have k4q:=k46;refine Zq k4 ?_;intro w4 pw4;replace k99:=k99.put pw4 (by omega);replace k4:=pw4.an;refine bn 0 1 4 (Zt (Cd.ret ?_));intro a ha;show Leaves Tryz.prog _ a.tmps _ a.defers .returning _;rw[ha.defers,hI];refine leaves_cons (by simp) (f:=207) (args:= #[.pointer (some ⟨g4,0,none⟩)]) (by simp[invoke,hen]) ((xt g4 _).mono fun e u' w' ⟨h1,h2,h3⟩=> ?_);subst h1 h2 h3;have hgr:=pw4.grown;have hsz:=pw4.size;have hblk:∀k,k<wq.heap.size→k≠g4→w'.heap[k]? =wq.heap[k]? :=fun k hk hne=>(hgr.block k (by omega) (fun e=>hne (by injection e))).trans (hbw.block k hk);have hfe:Fz h K.g wq w':=⟨hgr.os.trans hbw.os,hgr.tape.trans hbw.tape,hgr.output.trans hbw.output,by omega,fun k hk _=>hblk k (by have:=hfw.size;omega) (by omega)⟩;have hdd:(decide ((q:Int)=(K.ws.length:Int)))=decide (q=K.ws.length):=by rw[decide_eq_decide];omega
 refine⟨_,nQ rfl a.tmps (ha.slot 4 _ rfl) Tryz.underlying4 k4,hfw.trans hfe,⟨Nat.le_trans kp6.size (by omega),fun k t cs hb h1 h2 h3'=> ?_⟩,?_,⟨0,k99,pwq.rd.below (B:=K.B) ⟨hfe.os,hfe.tape,hfe.output,hfe.size,fun k hk=>hblk k (by omega) (by omega)⟩,pwq.bJ,pwq.eo⟩,hok x _ wq _ g4 hov (by omega) hltc kpq.size (by omega) hblk⟩
 ·have hb2:=kp6.eQ k t cs hb h1 h2 h3'
  have:=hb.lt;have h9:=hblk k hb2.lt (by omega);unfold aH at hb2⊢;rw[h9];exact hb2
 ·show Ending.returned (.bool (decide ((q:Int)=(K.ws.length:Int))))=_
  rw[hdd]
section
variable {P:Program} {E:Operand→Option Value} {o:Oper} {w:World} {x:Operand} {T:TypeId}
end
theorem xT (c:Nat)(r:List Nat):gZ (c::r)=if fy c then(if iv (c::r) then some (2,(c::r).take 10,eZ ((c::r).take 10)) else(rI ((c::r).take (runN aL (c::r)))).map fun v=>(1,(c::r).take (runN aL (c::r)),v))
  else if kT c then(if runN aL (c::r)≤16 then some (3,(c::r).take (runN aL (c::r)),0) else none)
  else(dO (c::r)).map fun s=>(0,s,0):=rfl
def Fy (x:Wd):Prop:=(x.kind=0∧x.text∈eW∧x.n=0)∨(x.kind=1∧0≤x.n∧x.n≤9223372036854775807)∨(x.kind=2∧0≤x.n∧x.n≤2932896)∨(x.kind=3∧cS x.text=true∧x.n=0)
theorem zn (p:Nat→Bool)(t:List Nat)(ht:∀x∈t,p x=true):runN p t=t.length:=by
 induction t with
 |nil=>rfl
 |cons x t ih=>rw[eu,if_pos (ht x (by simp)),ih (fun y hy=>ht y (by simp[hy]))];rfl
theorem EV {y m d:Int}(h:fZ y m d=true):0≤fF y m d∧fF y m d≤2932896:=by
 unfold fZ at h;simp only[Bool.and_eq_true,decide_eq_true_eq] at h;obtain⟨⟨⟨h1,h2⟩,h3⟩,h4⟩:=h;obtain⟨h5,h6,h7⟩:=ma (y:=y) (m:=m) (by omega);unfold fF so ofM
 by_cases hm:m<3
 ·rw[if_pos hm,if_pos hm];omega
 ·rw[if_neg hm,if_neg hm];omega
theorem Bd (l:List Nat):0≤eZ l∧eZ l≤2932896:=by
 unfold eZ;split
 ·rename_i h
  unfold df at h;simp only[Bool.and_eq_true] at h;exact EV h.2
 ·omega
theorem Bc {l:List Nat}{k:Int}{t:List Nat}{n:Int}{pos:Nat}(h:gZ l=some (k,t,n)):Fy ⟨k,t,n,pos⟩:=by
 obtain⟨h1,h2,h3⟩:=iT h
 cases l with
 |nil=>cases h
 |cons c l=>
  rw[xT] at h
  by_cases hd:fy c=true
  ·rw[if_pos hd] at h
   by_cases hday:iv (c::l)=true
   ·rw[if_pos hday] at h
    injection h with h
    injection h with e1 h
    injection h with e2 e3
    have:=Bd ((c::l).take 10);exact .inr (.inr (.inl ⟨e1.symm,by simp only;omega,by simp only;omega⟩))
   ·rw[if_neg hday] at h
    cases ha:rI ((c::l).take (runN aL (c::l))) with
    |none=>rw[ha] at h;cases h
    |some v=>
     rw[ha] at h;injection h with h
     injection h with e1 h
     injection h with e2 e3
     unfold rI at ha;split at ha
     ·rename_i h6
      injection ha with ha
      exact .inr (.inl ⟨e1.symm,by simp only;omega,by simp only;omega⟩)
     ·cases ha
  ·rw[if_neg hd] at h
   by_cases hle:kT c=true
   ·rw[if_pos hle] at h
    by_cases h16:runN aL (c::l)≤16
    ·rw[if_pos h16] at h
     injection h with h
     injection h with e1 h
     injection h with e2 e3
     have hall:∀x∈t,aL x=true:=by rw[←e2];exact rf aL _
     have htl:t.length≤16:=by rw[←e2,List.length_take];omega
     have ht0:t.getD 0 0=c:=by
      cases t with
      |nil=>simp at h1
      |cons d q=>
       rw[List.length_cons,List.take_succ_cons] at h2;injection h2 with h2 _
     refine .inr (.inr (.inr ⟨e1.symm,?_,e3.symm⟩));show cS t=true;unfold cS;rw[zn aL t hall,ht0,hle];have hne:t≠ []:=fun e=>by rw[e] at h1;simp at h1
     simp[htl,hne]
    ·rw[if_neg h16] at h;cases h
   ·rw[if_neg hle] at h
    cases hs:dO (c::l) with
    |none=>rw[hs] at h;cases h
    |some s=>
     rw[hs] at h;injection h with h
     injection h with e1 h
     injection h with e2 e3
     subst e2;exact .inl ⟨e1.symm,List.mem_of_find?_eq_some hs,e3.symm⟩
theorem pU (l:List Nat)(hl:∀x∈l,x<256):∀f p,∀x∈(gD f l p).1,Fy x∧(∀c∈x.text,c<256)∧x.text.length≤l.length∧x.pos<l.length
 |0,p,x,h=>by simp[gD] at h
 |f+1,p,x,h=>by
  rcases Nat.lt_or_ge p l.length with hlt|hge
  ·rw[gN f l p hlt] at h
   cases hn:gZ (l.drop p) with
   |none=>rw[hn] at h;simp at h
   |some z=>
    obtain⟨k,t,n⟩:=z;rw[hn] at h;rcases List.mem_cons.1 h with rfl|h
    ·obtain⟨s1,s2,s3⟩:=iT hn
     refine⟨Bc hn,fun c hc=> ?_,by rw[List.length_drop] at s3;dsimp only;omega,hlt⟩;dsimp only at hc;rw[s2] at hc;exact hl c (List.mem_of_mem_drop (List.mem_of_mem_take hc))
    ·exact pU l hl f _ x h
  ·rw[lQ _ _ _ hge] at h;simp at h
theorem uK (l:List Nat):∀(f p:Nat),p≤l.length→(gD f l p).1.length+p≤l.length
 |0,p,h=>by unfold gD;simpa using h
 |f+1,p,h=>by
  rcases Nat.lt_or_ge p l.length with h2|h2
  ·rw[gN f l p h2]
   cases hn:gZ (l.drop p) with
   |none=>simpa using h
   |some x=>
    obtain⟨k,t,n⟩:=x;obtain⟨s1,-,s3⟩:=iT hn;rw[List.length_drop] at s3;have hb:=jQ (l.drop (p+t.length));rw[List.length_drop] at hb;have:=uK l f (p+t.length+bT (l.drop (p+t.length))) (by omega);simp;omega
  ·rw[lQ _ l p h2];simpa using h
theorem xb (l:List Nat):(aP l).1.length≤l.length:=by
 have:=uK l (l.length+1) (bT l) (jQ l);unfold aP;omega
theorem Fy.i64 {x:Wd}(h:Fy x):bm x.kind∧bm x.n:=by
 unfold bm;rcases h with ⟨h1,-,h2⟩|⟨h1,h2,h3⟩|⟨h1,h2,h3⟩|⟨h1,-,h2⟩<;>omega
theorem wO (l:List Nat)(hl:∀x∈l,x<256)(h4:l.length≤4000){B g c:Nat}{A:Option Addr}(hle:B≤g):(Ctx.mk B g c l.length A (aP l).1).Ok:=
 ⟨hle,by have:=xb l;show(aP l).1.length≤4000;omega,h4,fun x hx=>by
  obtain⟨h1,h2,h3,h4'⟩:=pU l hl _ _ x hx;exact⟨h1.i64.1,h1.i64.2,h2,by omega,by omega⟩⟩
end Go.Proofs.YtigoimhndlnhfaaGreat