/-
  Texts that were joined: LexJ, PanN, PanO, PanP, PanQ, ParB, PanR, PanS, PanT, PanU, PanV, CutA, CutB, CutC, ParC, ParD, ClmA, ClmB, ClmC, ParE, LexK, DateE, LexL, ClmD, ClmE, ClmF, ParF, ClmG, ClmH, TOpen, EvA, EvB, EvC, EvD, EvE, VodA, EvF, EvG, VodB, EvI, EvJ, EvH, EvK. Conditions: what each theorem names.
-/
import Derived.Test.YtigoimhndlnhfaaGreatG3
import Derived.ProofKit
import Derived.OpenShut
import Derived.Lib.SmallJoins
import Derived.Deep.Slices
import Derived.Deep.Fields
import Derived.ChangeSame
set_option linter.unusedSectionVars false
namespace Go.Proofs.YtigoimhndlnhfaaGreat
theorem sS (c:Nat)(r:List Nat):js (c::r)=if gf c then(if ma (c::r) then some (2,(c::r).take 10,gu ((c::r).take 10)) else(ql ((c::r).take (runN bq (c::r)))).map fun v=>(1,(c::r).take (runN bq (c::r)),v))
  else if qi c then(if runN bq (c::r)≤16 then some (3,(c::r).take (runN bq (c::r)),0) else none)
  else(nQ (c::r)).map fun s=>(0,s,0):=rfl
open Go.RowKit
def Av (x:Wd):Prop:=(x.kind=0∧x.text∈eK∧x.n=0)∨(x.kind=1∧0≤x.n∧x.n≤9223372036854775807)∨(x.kind=2∧0≤x.n∧x.n≤2932896)∨(x.kind=3∧eR x.text=true∧x.n=0)
theorem ux (p:Nat→Bool)(t:List Nat)(ht:∀x∈t,p x=true):runN p t=t.length:=by
 induction t with
 |nil=>rfl
 |cons x t ih=>rw[fb,if_pos (ht x (by simp)),ih (fun y hy=>ht y (by simp[hy]))];rfl
theorem zr {y m d:Int}(h:jr y m d=true):0≤gJ y m d∧gJ y m d≤2932896:=by
 unfold jr at h;simp only[Bool.and_eq_true,decide_eq_true_eq] at h;obtain⟨⟨⟨h1,h2⟩,h3⟩,h4⟩:=h;obtain⟨h5,h6,h7⟩:=mw (y:=y) (m:=m) (by omega);unfold gJ o8 ofM
 by_cases hm:m<3
 ·rw[if_pos hm,if_pos hm];omega
 ·rw[if_neg hm,if_neg hm];omega
theorem vz (l:List Nat):0≤gu l∧gu l≤2932896:=by
 unfold gu;split
 ·rename_i h
  unfold gN at h;simp only[Bool.and_eq_true] at h;exact zr h.2
 ·omega
theorem wR {l:List Nat}{k:Int}{t:List Nat}{n:Int}{pos:Nat}(h:js l=some (k,t,n)):Av ⟨k,t,n,pos⟩:=by
 obtain⟨h1,h2,h3⟩:=iE h
 cases l with
 |nil=>cases h
 |cons c l=>
  rw[sS] at h
  by_cases hd:gf c=true
  ·rw[if_pos hd] at h
   by_cases hday:ma (c::l)=true
   ·rw[if_pos hday] at h
    injection h with h
    injection h with e1 h
    injection h with e2 e3
    have:=vz ((c::l).take 10);exact .inr (.inr (.inl ⟨e1.symm,by simp only;omega,by simp only;omega⟩))
   ·rw[if_neg hday] at h
    cases ha:ql ((c::l).take (runN bq (c::l))) with
    |none=>rw[ha] at h;cases h
    |some v=>
     rw[ha] at h;injection h with h
     injection h with e1 h
     injection h with e2 e3
     unfold ql at ha;split at ha
     ·rename_i h6
      injection ha with ha
      exact .inr (.inl ⟨e1.symm,by simp only;omega,by simp only;omega⟩)
     ·cases ha
  ·rw[if_neg hd] at h
   by_cases hle:qi c=true
   ·rw[if_pos hle] at h
    by_cases h16:runN bq (c::l)≤16
    ·rw[if_pos h16] at h
     injection h with h
     injection h with e1 h
     injection h with e2 e3
     have hall:∀x∈t,bq x=true:=by rw[←e2];exact nZ bq _
     have htl:t.length≤16:=by rw[←e2,List.length_take];omega
     have ht0:t.getD 0 0=c:=by
      cases t with
      |nil=>simp at h1
      |cons d q=>
       rw[List.length_cons,List.take_succ_cons] at h2;injection h2 with h2 _
     refine .inr (.inr (.inr ⟨e1.symm,?_,e3.symm⟩));show eR t=true;unfold eR;rw[ux bq t hall,ht0,hle];have hne:t≠ []:=fun e=>by rw[e] at h1;simp at h1
     simp[htl,hne]
    ·rw[if_neg h16] at h;cases h
   ·rw[if_neg hle] at h
    cases hs:nQ (c::l) with
    |none=>rw[hs] at h;cases h
    |some s=>
     rw[hs] at h;injection h with h
     injection h with e1 h
     injection h with e2 e3
     subst e2;exact .inl ⟨e1.symm,List.mem_of_find?_eq_some hs,e3.symm⟩
theorem tA (l:List Nat)(hl:∀x∈l,x<256):∀f p,∀x∈(fS f l p).1,Av x∧(∀c∈x.text,c<256)∧x.text.length≤l.length∧x.pos<l.length
 |0,p,x,h=>by simp[fS] at h
 |f+1,p,x,h=>by
  rcases Nat.lt_or_ge p l.length with hlt|hge
  ·rw[jE f l p hlt] at h
   cases hn:js (l.drop p) with
   |none=>rw[hn] at h;simp at h
   |some z=>
    obtain⟨k,t,n⟩:=z;rw[hn] at h;rcases List.mem_cons.1 h with rfl|h
    ·obtain⟨s1,s2,s3⟩:=iE hn
     refine⟨wR hn,fun c hc=> ?_,by rw[List.length_drop] at s3;dsimp only;omega,hlt⟩;dsimp only at hc;rw[s2] at hc;exact hl c (List.mem_of_mem_drop (List.mem_of_mem_take hc))
    ·exact tA l hl f _ x h
  ·rw[kH _ _ _ hge] at h;simp at h
theorem rK (l:List Nat):∀(f p:Nat),p≤l.length→(fS f l p).1.length+p≤l.length
 |0,p,h=>by unfold fS;simpa using h
 |f+1,p,h=>by
  rcases Nat.lt_or_ge p l.length with h2|h2
  ·rw[jE f l p h2]
   cases hn:js (l.drop p) with
   |none=>simpa using h
   |some x=>
    obtain⟨k,t,n⟩:=x;obtain⟨s1,-,s3⟩:=iE hn;rw[List.length_drop] at s3;have hb:=jP (l.drop (p+t.length));rw[List.length_drop] at hb;have:=rK l f (p+t.length+cn (l.drop (p+t.length))) (by omega);simp;omega
  ·rw[kH _ l p h2];simpa using h
theorem sa (l:List Nat):(bl l).1.length≤l.length:=by
 have:=rK l (l.length+1) (cn l) (jP l);unfold bl;omega
theorem Av.i64 {x:Wd}(h:Av x):bM x.kind∧bM x.n:=by
 unfold bM;rcases h with ⟨h1,-,h2⟩|⟨h1,h2,h3⟩|⟨h1,h2,h3⟩|⟨h1,-,h2⟩<;>omega
theorem zB (l:List Nat)(hl:∀x∈l,x<256)(h4:l.length≤4000){B g c:Nat}{A:Option Addr}(hle:B≤g):(Ctx.mk B g c l.length A (bl l).1).Ok:=
 ⟨hle,by have:=sa l;show(bl l).1.length≤4000;omega,h4,fun x hx=>by
  obtain⟨h1,h2,h3,h4'⟩:=tA l hl _ _ x hx;exact⟨h1.i64.1,h1.i64.2,h2,by omega,by omega⟩⟩
theorem rA {α:Type}(K:Ctx)(h:Nat)(f:Nat)(cp:List Value)(b3 b9:Nat)(r:Rs α)(okv:α→World→Prop)(W:World)(eg:∀args w,(callFunc f args).run Tryz.prog w= .ok (.enter f args) w)
  (k3:aQ W b3 190 #[.func (.func f) #[] cp.toArray]) (k9:aQ W b9 189 #[.pointer (some ⟨K.g,0,none⟩)]) (hne:r≠ .out)
  (hc:Calls Tryz.prog f ([]++[Value.pointer (some ⟨K.g,0,none⟩)]++cp).toArray W (Al K h W r okv)):
  Calls Tryz.prog 163 #[.pointer (some ⟨b3,0,none⟩), .pointer (some ⟨b9,0,none⟩)] W (Al K h W r okv):=by
 have bel:=Below.refl W.heap.size W;have k98:=k3;have k99:=k9;refine Zs 5 Tryz.func163 ?_;refine Zr ?_;refine ZL Tryz.underlying190 k98 ?_;refine ZL Tryz.underlying189 k99 ?_;rcases Rs.cB hne with ⟨q,ov,hr⟩|⟨x,q,hr⟩
 ·rw[hr] at hc⊢
  refine Seq.bZ (Enters.value (first:=[]) (cap:=cp) rfl rfl rfl eg) rfl hc ?_;rintro e w6 ⟨hf,rfl,d6,hp6⟩;refine⟨_,rfl,fun a ha=>⟨ha.defers,?_⟩⟩;exact⟨hf,rfl,d6,hp6⟩
 rw[hr] at hc⊢;refine Seq.call (Enters.value (first:=[]) (cap:=cp) rfl rfl rfl eg) rfl rfl rfl hc ?_;rintro e wq ⟨hf,kpq,⟨v,rfl⟩,pwq,hov⟩;refine⟨_,rfl,?_⟩;refine eh 0 1 ?_;refine ai.fq rfl (.inr rfl) ?_;exact⟨hf,kpq,⟨_,rfl⟩,pwq,hov⟩
def endPos (l:List Nat)(p:Nat):Nat:=((bl l).1.getD p ⟨-1,[],0,l.length⟩).pos
def cN {α:Type}(l:List Nat)(r:Rs α):Nat × Int:=if 4000<l.length then(0,4) else match (bl l).2 with
 |some p=>(p,11)
 |none=>match r with
  | .out=>(0,0)
  | .bad p ov=>if ov=true then(0,13) else(endPos l p,11)
  | .ok _ p=>if p=(bl l).1.length then(0,0) else(endPos l p,11)
def so {α:Type}(l:List Nat)(r:Rs α)(ok2:α→World→Prop)(h:Nat)(w:World)(e:Ending)(w':World):Prop:=
 Below h w w'∧Kp w w'∧e= .returned (.tuple #[.int .i64 ((cN l r).1:Int), .int .i64 (cN l r).2])∧((cN l r).2=0→∃a p,r= .ok a p∧ok2 a w')
theorem lB (A:Option Addr)(n c:Nat)(z:Int)(w:World):(Instr.build 219 #[(0, .slice A n c),(4, .int .i64 z)]).run Tryz.prog w= .ok (.agg #[.slice A n c, .int .i64 0, .int .i64 0, .bool false, .int .i64 z]) w:=by
 have hu:=Tryz.underlying219
 go_simp
theorem jn (a b c:Int)(s:ByteArray)(w:World):(Instr.field 221 (.agg #[.int .i64 a, .string s, .int .i64 b, .int .i64 c]) 3).run Tryz.prog w= .ok (.int .i64 c) w:=by kernel_rfl
theorem km:cv Tryz.prog 189=some (some (.pointer none)):=by kernel_rfl
theorem sU {α:Type}(l:List Nat)(hl:∀x∈l,x<256)(hlen:l.length≤9223372036854775807)(f:Nat)(cp:List Value)(h:Nat)(r:Rs α)(okv:World→α→World→Prop)(ok2:α→World→Prop)(w:World)(hh:h≤w.heap.size)(eg:∀args w,(callFunc f args).run Tryz.prog w= .ok (.enter f args) w)
  (hne:r≠ .out)
  (hok:∀a W0 W W' g,okv W0 a W→w.heap.size≤g→g<W0.heap.size→W0.heap.size≤W.heap.size→W.heap.size≤W'.heap.size→(∀k,k<W.heap.size→k≠g→W'.heap[k]? =W.heap[k]?)→ok2 a W')
  (hc:∀K:Ctx,K.Ok→K.ws=(bl l).1→(bl l).2=none→w.heap.size≤K.g→(∀ad,K.A=some ad→w.heap.size≤ad.block)→∀W,Below w.heap.size w W→PW K W 0 0 false→Calls Tryz.prog f ([]++[Value.pointer (some ⟨K.g,0,none⟩)]++cp).toArray W (Al K h W r (okv W))):
  Calls Tryz.prog 126 #[.string (strOf l), .func (.func f) #[] cp.toArray] w (so l r ok2 h w):=by
 have bel:=Below.refl w.heap.size w;refine Zs 40 Tryz.func126 ?_;refine aw ?_;refine Seq.box rfl rfl rfl rfl rfl ?_;intro g3 w1 n3;have e3:=Nat.le_trans bel.size n3.ge;replace bel:=bel.step n3.below;have k3:=n3.aE;refine Za ?_;refine Za ?_;refine br 0 1 3 4 5 (aN ?_);refine Zm ?_;refine Zc (Ze Tryz.func161) (vq l _ hl hlen) ?_;rintro e wv ⟨hb2,⟨h1,rfl⟩|⟨h1,p,h2,rfl⟩|⟨h4,h2,v,rfl,own⟩⟩
 ·have hpa:cN l r=(0,4):=by unfold cN;rw[if_pos h1]
  refine⟨_,rfl,?_⟩;replace bel:=bel.step hb2;replace k3:=k3.step hb2;refine Zm ?_;refine Zx ?_;refine Zx ?_;refine Zx ?_;refine Za ?_;refine Za ?_;refine Za ?_;refine db 0 1 3 4 5 6 7 8 (bo (aw ?_));refine Zm ?_;refine po ?_;refine eP 0 1 3 4 5 6 7 8 18 (Zt ?_);refine Cd.bb rfl (by simp) ?_;refine aw ?_;refine Zm ?_;refine Zm ?_;refine Za ?_;refine Za ?_;refine eP 0 1 3 4 5 6 7 8 18 (Zt (Cd.ret (ai.ar ?_)));refine eB ?_;unfold so;rw[hpa];exact⟨bel.mono hh,(Kp.refl w).step bel,rfl,fun h=>by cases h⟩
 ·have hpa:cN l r=(p,11):=by unfold cN;rw[if_neg (by omega),h2]
  refine⟨_,rfl,?_⟩;replace bel:=bel.step hb2;replace k3:=k3.step hb2;refine Zm ?_;refine Zx ?_;refine Zx ?_;refine Zx ?_;refine Za ?_;refine Za ?_;refine Za ?_;refine db 0 1 3 4 5 6 7 8 (bo (aw ?_));refine Zm ?_;refine po ?_;refine eP 0 1 3 4 5 6 7 8 18 (Zt ?_);refine Cd.bb rfl (by simp) ?_;refine aw ?_;refine Zm ?_;refine Zm ?_;refine Za ?_;refine Za ?_;refine eP 0 1 3 4 5 6 7 8 18 (Zt (Cd.ret (ai.ar ?_)));refine eB ?_;unfold so;rw[hpa];exact⟨bel.mono hh,(Kp.refl w).step bel,rfl,fun h=>by cases h⟩
 obtain⟨A,cap,rfl,hrd⟩:=own.reads;refine⟨_,rfl,?_⟩;replace bel:=bel.step hb2;replace k3:=k3.step hb2;refine Zm ?_;refine Zx ?_;refine Zx ?_;refine Zx ?_;refine Za ?_;refine Za ?_;refine Za ?_;refine db 0 1 3 4 5 6 7 8 (bo (aw ?_));refine Zm ?_;refine po ?_;refine eP 0 1 3 4 5 6 7 8 18 (Zt ?_);refine Cd.aR rfl (by simp) ?_;refine Cd.skip (aN ?_);refine Zm ?_;refine Zm ?_;refine Zv (ah.dY rfl rfl Tryz.underlying9) ?_;refine Zv (ah.build rfl rfl (lB _ _ _ _ _)) ?_;refine Seq.box rfl rfl rfl rfl rfl ?_;intro g25 w2 n25;have e25:=Nat.le_trans bel.size n25.ge;have l25:=Nat.lt_of_lt_of_le k3.lt n25.ge;replace bel:=bel.step n25.below;replace k3:=k3.step n25.below;have k25:=n25.aE;refine Zl km ?_;intro g9 w3 n9;have e9:=Nat.le_trans bel.size n9.ge;have l9:=Nat.lt_of_lt_of_le k25.lt n9.ge;replace bel:=bel.step n9.below;replace k3:=k3.step n9.below;replace k25:=k25.step n9.below;have k9:=n9.aE;refine Zq k9 ?_;intro w4 pw4;replace bel:=bel.put k9 pw4 e9;replace k3:=k3.put pw4 (by omega);replace k25:=k25.put pw4 (by omega);replace k9:=pw4.aE;refine fO 0 1 3 4 5 6 7 8 9 18 (bo (aw ?_));refine ZL Tryz.underlying189 k9 ?_;refine Zv (ah.makeFunc (v:= .func (.func 163) #[] #[.pointer (some ⟨g3,0,none⟩), .pointer (some ⟨g9,0,none⟩)]) rfl (show gx _ _=some [] from rfl) (show gx _ _=some [.pointer (some ⟨g3,0,none⟩), .pointer (some ⟨g9,0,none⟩)] from rfl) rfl) ?_;have hB4:Below wv.heap.size wv w4:=pw4.ia (n25.below.step n9.below) (Nat.le_trans n25.below.size n9.ge) (by have:=n9.below.size;have:=k9.lt;have:=pw4.size;omega);have hKok:=zB l hl h4 (B:=wv.heap.size) (g:=g25) (c:=cap) (A:=A) n25.ge
 generalize hK:(Ctx.mk wv.heap.size g25 cap l.length A (bl l).1)=K at hKok
 have hKg:K.g=g25:=by rw[←hK]
 have hKw:K.ws=(bl l).1:=by rw[←hK]
 have hKe:K.en=l.length:=by rw[←hK]
 have pw:PW K w4 0 0 false:=by rw[←hK];exact⟨k25,hrd.below hB4,Nat.zero_le _, .inl (by omega)⟩
 have hKA:∀ad,K.A=some ad→w.heap.size≤ad.block:=fun ad h=>by
  rw[←hK] at h;have h:A=some ad:=h;have:=(own.bO ad.block (by rw[h];rfl)).1;have:=n3.below.size;omega
 subst hKg
 have hrun:=wJ K hKok 163 [.pointer (some ⟨g3,0,none⟩), .pointer (some ⟨g9,0,none⟩)] h r okv ok2 w4 pw (Nat.le_trans hh bel.size) hne (fun args w=>bc Tryz.func163 (by kernel_rfl) rfl args w)
  (fun a W0 W W' g h1 h2 h3 h4 h5 h6=>hok a W0 W W' g h1 (Nat.le_trans bel.size h2) h3 h4 h5 h6)
  (fun W hb hp=>rA K h f cp g3 g9 r (okv W) W eg (k3.step hb) (k9.step hb) hne (hc K hKok hKw h2 e25 hKA W (bel.step hb) hp))
 refine Zc (Ze Tryz.func162) (hrun) ?_;rcases Rs.cB hne with ⟨q,ov,hr⟩|⟨x,q,hr⟩
 ·rw[hr]
  rintro e w6 ⟨hf,kp,rfl,d6,hp6⟩;refine⟨_,rfl,?_⟩;have k9':=kp.aE k9;have kfin:Kp w w6:=((Kp.refl w).step bel).trans kp;have bfin:Below h w w6:=(bel.mono hh).trans (hf.below (Nat.le_refl _) (by omega));have hw6:=fv K hKok q d6 ov w6 hp6;have hpos:(K.at_ q).pos=endPos l q:=by unfold Ctx.at_ endPos;rw[hKw,hKe]
  have k99:=hp6.aE;clear k9;have k9:=k9';clear bel;have bel:=Below.refl w6.heap.size w6
  cases ov with
  |true=>
   have hpa:cN l (Rs.bad (α:=α) q true)=(0,13):=by unfold cN;rw[if_neg (by omega),h2];rfl
   refine Za ?_;refine eT 0 1 3 4 5 6 7 8 9 10 18 (Zt (Cd.block (aw ?_)));refine ZL Tryz.underlying189 k9 ?_;refine Zv (ah.nilCheck rfl rfl) ?_;refine Zf 3 Tryz.underlying219 ?_;refine ZL Tryz.underlying4 k99 ?_;refine Za ?_;refine iU 0 1 3 4 5 6 7 8 9 10 18 29 (Zt ?_);refine Cd.bb rfl rfl ?_;refine aw ?_;refine Za ?_;refine Za ?_;refine iU 0 1 3 4 5 6 7 8 9 10 18 29 (Zt (Cd.ret (ai.au (ai.ar ?_))));refine eB ?_;unfold so;rw[hpa];exact⟨bfin.trans (bel.mono (by have:=bfin.size;omega)),kfin.step bel,rfl,fun h=>by cases h⟩
  |false=>
   have hpa:cN l (Rs.bad (α:=α) q false)=(endPos l q,11):=by unfold cN;rw[if_neg (by omega),h2];rfl
   have hwf:=fun W (hb:Below w6.heap.size w6 W)=>fv K hKok q d6 false W (hp6.step hKok.le hb);refine Za ?_;refine eT 0 1 3 4 5 6 7 8 9 10 18 (Zt (Cd.block (aw ?_)));refine ZL Tryz.underlying189 k9 ?_;refine Zv (ah.nilCheck rfl rfl) ?_;refine Zf 3 Tryz.underlying219 ?_;refine ZL Tryz.underlying4 k99 ?_;refine Za ?_;refine iU 0 1 3 4 5 6 7 8 9 10 18 29 (Zt ?_);refine Cd.aR rfl rfl ?_;refine aw ?_;refine Zm ?_;refine mn ?_;refine Za ?_;refine jU 0 1 3 4 5 6 7 8 9 10 18 29 34 (Zt ?_);refine Cd.bb rfl rfl ?_;refine aw ?_;refine ZL Tryz.underlying189 k9 ?_;refine Zc (Ze Tryz.func164) (hwf _ bel) ?_;rintro e w7 ⟨rfl,hb7⟩;refine⟨_,rfl,?_⟩;replace bel:=bel.step hb7;replace k9:=k9.step hb7;replace k99:=k99.step hb7;refine Zv (ah.field rfl rfl (jn _ _ _ _ _)) ?_;refine Za ?_;refine Za ?_;refine jU 0 1 3 4 5 6 7 8 9 10 18 29 34 (Zt (Cd.ret (ai.au (ai.ar ?_))));refine eB ?_;unfold so;rw[hpa];refine⟨bfin.trans (bel.mono (by have:=bfin.size;omega)),kfin.step bel,?_,fun h=>by cases h⟩;rw[←hpos]
 ·rw[hr]
  rintro e w6 ⟨hf,kp,rfl,⟨d6,hp6⟩,hov⟩;refine⟨_,rfl,?_⟩;have k9':=kp.aE k9;have kfin:Kp w w6:=((Kp.refl w).step bel).trans kp;have bfin:Below h w w6:=(bel.mono hh).trans (hf.below (Nat.le_refl _) (by omega));have hpos:(K.at_ q).pos=endPos l q:=by unfold Ctx.at_ endPos;rw[hKw,hKe]
  have k99:=hp6.aE;clear k9;have k9:=k9';clear bel;have bel:=Below.refl w6.heap.size w6;rw[hKw] at *;refine Za ?_;refine eT 0 1 3 4 5 6 7 8 9 10 18 (Zt (Cd.block (aw ?_)));refine ZL Tryz.underlying189 k9 ?_;refine Zv (ah.nilCheck rfl rfl) ?_;refine Zf 3 Tryz.underlying219 ?_;refine ZL Tryz.underlying4 k99 ?_;refine Za ?_;refine iU 0 1 3 4 5 6 7 8 9 10 18 29 (Zt ?_);refine Cd.aR rfl rfl ?_;refine aw ?_;refine Zm ?_;refine mn ?_;refine Za ?_;refine jU 0 1 3 4 5 6 7 8 9 10 18 29 34 (Zt ?_);refine Cd.cond rfl (fun h=> ?_) (fun h=> ?_)
  ·have hq:q≠(bl l).1.length:=by simpa using h
   have hpa:cN l (Rs.ok x q)=(endPos l q,11):=by unfold cN;rw[if_neg (by omega),h2];exact if_neg hq
   have hwf:=fun W (hb:Below w6.heap.size w6 W)=>fv K hKok q d6 false W (hp6.step hKok.le hb);refine aw ?_;refine ZL Tryz.underlying189 k9 ?_;refine Zc (Ze Tryz.func164) (hwf _ bel) ?_;rintro e w7 ⟨rfl,hb7⟩;refine⟨_,rfl,?_⟩;replace bel:=bel.step hb7;replace k9:=k9.step hb7;replace k99:=k99.step hb7;refine Zv (ah.field rfl rfl (jn _ _ _ _ _)) ?_;refine Za ?_;refine Za ?_;refine jU 0 1 3 4 5 6 7 8 9 10 18 29 34 (Zt (Cd.ret (ai.au (ai.ar ?_))));refine eB ?_;unfold so;rw[hpa];refine⟨bfin.trans (bel.mono (by have:=bfin.size;omega)),kfin.step bel,?_,fun h=>by cases h⟩;rw[←hpos]
  ·have hq:q=(bl l).1.length:=by simpa using h
   have hpa:cN l (Rs.ok x q)=(0,0):=by unfold cN;rw[if_neg (by omega),h2];exact if_pos hq
   refine Cd.skip (ai.av (aN ?_));refine Za ?_;refine Za ?_;refine jU 0 1 3 4 5 6 7 8 9 10 18 29 34 (Zt (Cd.ret ?_));refine eB ?_;unfold so;rw[hpa];exact⟨bfin.trans (bel.mono (by have:=bfin.size;omega)),kfin.step bel,rfl,fun _=>⟨x,q,rfl,hov⟩⟩
def zQ (gt:Nat)(W0:World)(x:Tm)(W:World):Prop:=∃(S:Nat→Prop) (v:Value),aQ W gt 71 v.cells∧dW W S x v∧∀b,S b→W0.heap.size≤b∧b<W.heap.size
theorem sG (K:Ctx)(hK:K.Ok)(n gt h:Nat)(W:World)(pw:PW K W 0 0 false)(kt:aQ W gt 71 #[.int .i64 0, .string {data:= #[]}, .slice none 0 0, .slice none 0 0]) (hg:gt<K.g) (hh:h≤gt) (hKA:∀ad,K.A=some ad→ad.block≠gt) (hne:lR K.ws n 0 0≠ .out):
  Calls Tryz.prog 127 #[.pointer (some ⟨K.g,0,none⟩), .pointer (some ⟨gt,0,none⟩)] W (Al K h W (lR K.ws n 0 0) (zQ gt W)):=by
 have hcl:=ru K hK n 0 0 W pw hne;have hlt:=pw.aE.lt;have hle:=hK.le;have bel:=Below.refl W.heap.size W;refine Zs 5 Tryz.func127 ?_;refine Zr ?_;refine Zm ?_;rcases Rs.cB hne with ⟨q,ov,hr⟩|⟨x,q,hr⟩
 ·rw[hr] at hcl⊢
  refine Seq.bZ (Ze Tryz.func128) rfl hcl ?_;rintro e w6 ⟨hf,rfl,d6,hp6⟩;refine⟨_,rfl,fun a ha=>⟨ha.defers,?_⟩⟩;exact⟨hf,rfl,d6,hp6⟩
 rw[hr] at hcl⊢;refine Zc (Ze Tryz.func128) (hcl) ?_;rintro e wq ⟨hf,v,rfl,pwq,S,hrep,hS⟩;refine⟨_,rfl,?_⟩;have kp0:=(Kp.refl W).fz pw.aE hf;have k98:=kt.fz hf (by omega);have hs98:=k98.lt;have k98':=k98;obtain⟨A,c,A',c',rfl⟩:=hrep.form;have hq:=pwq.aE.lt;clear bel;have bel:=Below.refl wq.heap.size wq;refine Zo 4 k98 ?_;intro w1 pw1;replace k98:=pw1.aE;refine eh 0 1 ?_;refine ai.fq rfl (.inr rfl) ?_;have hsz:=pw1.size;have hbl:∀k,k≠gt→k<wq.heap.size→w1.heap[k]? =wq.heap[k]? :=fun k hk hl=>pw1.grown.block k hl (fun e=>hk (by injection e))
 have hrd:Reads w1 K.B 4 K.A K.ws.length (eL K.ws):=⟨pwq.rd.1,fun h0=>by
  obtain⟨ad,e1,e2,e3⟩:=pwq.rd.2 h0;exact⟨ad,e1,e2,fun j u hu=>(World.cell?_of_block (by rw[aM];exact hbl _ (hKA ad e1) (by omega))).trans (e3 j u hu)⟩⟩
 have k98z:aQ w1 gt 71 (Value.agg #[Value.int .i64 x.op,Value.string (strOf x.name),Value.slice A x.exprs.length c,Value.slice A' x.aS.length c']).cells:=k98;have kgz:aQ w1 K.g 219 _:=pwq.aE.put pw1 (by omega);exact⟨⟨pw1.grown.os.trans hf.os,pw1.grown.tape.trans hf.tape,pw1.grown.output.trans hf.output,by have:=hf.size;omega,fun k hk hne=>(hbl k (by omega) (by omega)).trans (hf.block k (by omega) hne)⟩,kp0.put k98' pw1 trivial,⟨_,rfl⟩,⟨kgz,hrd,pwq.cG,pwq.dm⟩,S,_,k98z,hrep.mono (fun _ h=>h) (fun a ha=>World.cell?_of_block (hbl _ (by have:=(hS _ ha).1;have:=kt.lt;omega) (hS _ ha).2)),fun b hb=>⟨(hS b hb).1,by have:=(hS b hb).2;omega⟩⟩
theorem uu (t:Tm)(B:Nat)(v:Value)(w:World)(hrep:fZ w B t v)(hB:B≤w.heap.size):Calls Tryz.prog 99 #[v] w fun en w'=>en= .returned (.bool (dU t))∧Grow w w':=by
 have hs:=fun W (hb:Below w.heap.size w W)=>kB t.nodes t 0 B v W (Nat.le_refl _) (by omega) (hrep.below (hb.mono hB)) (Nat.le_trans hB hb.size);have hbt:=fun W (hb:Below w.heap.size w W)=>o7 t.nodes t B v W (Nat.le_refl _) (hrep.below (hb.mono hB)) (Nat.le_trans hB hb.size);have hc:=yG t;have hdn:=t.ck
 have hres:(decide (t.nodes≤200)&&decide (t.depth≤16))=(decide ((qh t 0).1≤200)&&decide ((qh t 0).2≤16)):=by
  obtain⟨c1,c2⟩:=hc;rw[Bool.eq_iff_iff];simp only[Bool.and_eq_true,decide_eq_true_eq]
  constructor
  ·rintro⟨h1,h2⟩
   rw[c2 (by omega)];omega
  ·rintro⟨h1,h2⟩
   have h3:t.nodes≤200:=by omega
   rw[c2 (by omega)] at h2;omega
 unfold dU;rw[hres];obtain⟨A,c,A',c',rfl,-⟩:=hrep.open;have bel:=Below.refl w.heap.size w
 generalize (qh t 0)=s at *
 refine Zs 10 Tryz.func99 ?_;refine aw ?_;refine Seq.box rfl rfl rfl rfl rfl ?_;intro g1 w1 n1;have e1:=Nat.le_trans bel.size n1.ge;replace bel:=bel.step n1.below;have k1:=n1.aE;refine Za ?_;refine bV 0 1 2 (aN ?_);refine ZW 4 Tryz.underlying71 k1 ?_;refine Zc (Ze Tryz.func140) (hs _ bel) ?_;rintro en w5 ⟨rfl,hb5⟩;refine⟨_,rfl,?_⟩;replace bel:=bel.step hb5;replace k1:=k1.step hb5;refine Zc (Ze Tryz.func141) (mc s.1 s.2 _) ?_;rintro en w6 ⟨rfl,hb6⟩;refine⟨_,rfl,?_⟩;replace bel:=bel.step hb6;replace k1:=k1.step hb6;refine Zm ?_;refine aJ.start ?_;refine cF (fun hcx=>ah.fp rfl rfl Tryz.underlying71 rfl k1 (m:=4) (by kernel_rfl) rfl) ?_;refine aJ.da rfl rfl rfl rfl rfl rfl rfl (fun hcx=>Ze Tryz.func142) (fun hcx=>hbt _ bel) ?_;intro w2 hw2;replace bel:=bel.step hw2;replace k1:=k1.step hw2;refine gD ?_;refine Za ?_;refine bV 0 1 2 (Zt (Cd.ret ?_));refine bQ ?_;exact⟨bW (aV (by cases (decide (s.1≤200)&&decide (s.2≤16))<;>rfl)),bel⟩
section
variable {α β:Type}
def eO (f:Nat→Nat→Rs α):Prop:=∀p d a q,f p d= .ok a q→p<q
def Def (f:Nat→Nat→Rs α)(m:Nat):Prop:=∀p d,m≤p→f p d≠ .out
theorem Def.up {f:Nat→Nat→Rs α}{m m':Nat}(h:Def f m)(hm:m≤m'):Def f m':=fun p d hp=>h p d (by omega)
theorem Rs.bB {r:Rs α}{f:α→Nat→Rs β}{b:β}{q:Nat}(h:r.bind f= .ok b q):∃a p,r= .ok a p∧f a p= .ok b q:=by
 cases r with
 |out=>cases h
 |bad p o=>cases h
 |ok a p=>exact⟨a,p,rfl,h⟩
theorem Rs.ba {r:Rs α}{f:α→Nat→Rs β}(h:r≠ .out)(hf:∀a p,r= .ok a p→f a p≠ .out):r.bind f≠ .out:=by
 cases r with
 |out=>exact absurd rfl h
 |bad p o=>exact fun h=>by cases h
 |ok a p=>exact hf a p rfl
theorem jc {ws:List Wd}{s:List Nat}{p q:Nat}{u:Unit}(h:er ws s p= .ok u q):q=p+1∧uF ws p s=true:=by
 unfold er at h;split at h
 ·rename_i hs
  injection h with _ h
  exact⟨h.symm,hs⟩
 ·cases h
theorem lx (ws:List Wd)(s:List Nat)(p:Nat):er ws s p≠ .out:=by
 unfold er;split<;>exact fun h=>by cases h
theorem jQ {p d q:Nat}{u:Unit}(h:ey p d= .ok u q):q=p∧d<64:=by
 unfold ey at h;split at h
 ·cases h
 ·injection h with _ h
  exact⟨h.symm,by omega⟩
theorem mC (p d:Nat):ey p d≠ .out:=by
 unfold ey;split<;>exact fun h=>by cases h
theorem lP (ws:List Wd):∀(bE:List (Nat→Nat→Rs α)),(∀f∈bE,eO f)→∀first p d xs q,cH ws bE first p d= .ok xs q→p≤q
 | [],_,first,p,d,xs,q,h=>by injection h with _ h;omega
 |f::r,hm,first,p,d,xs,q,h=>by
  rw[cH] at h;obtain⟨u,p1,h1,h⟩:=Rs.bB h;obtain⟨x,p2,h2,h⟩:=Rs.bB h;obtain⟨ys,p3,h3,h⟩:=Rs.bB h;injection h with _ h
  have e1:p≤p1:=by
   split at h1
   ·injection h1 with _ h1;omega
   ·have:=(jc h1).1;omega
  have e2:=hm f (by simp) _ _ _ _ h2;have e3:=lP ws r (fun g hg=>hm g (by simp[hg])) _ _ _ _ _ h3;omega
theorem mW (ws:List Wd)(m:Nat):∀(bE:List (Nat→Nat→Rs α)),(∀f∈bE,eO f∧Def f m)→∀first p d,m≤p→cH ws bE first p d≠ .out
 | [],_,first,p,d,_=>fun h=>by cases h
 |f::r,hm,first,p,d,hp=>by
  rw[cH];refine Rs.ba ?_ fun u p1 h1=> ?_
  ·split
   ·exact fun h=>by cases h
   ·exact lx _ _ _
  have e1:p≤p1:=by
   split at h1
   ·injection h1 with _ h1;omega
   ·have:=(jc h1).1;omega
  refine Rs.ba ((hm f (by simp)).2 _ _ (by omega)) fun x p2 h2=> ?_;have e2:=(hm f (by simp)).1 _ _ _ _ h2;refine Rs.ba (mW ws m r (fun g hg=>hm g (by simp[hg])) _ _ _ (by omega)) fun ys p3 h3=> ?_;exact fun h=>by cases h
theorem fB (ws:List Wd)(bE:List (Nat→Nat→Rs α))(hm:∀f∈bE,eO f){p d:Nat}{xs:List α}{q:Nat}(h:cq ws bE p d= .ok xs q):p+2≤q:=by
 unfold cq at h;obtain⟨u,p1,h1,h⟩:=Rs.bB h;obtain⟨u2,p2,h2,h⟩:=Rs.bB h;obtain⟨ys,p3,h3,h⟩:=Rs.bB h;obtain⟨u3,p4,h4,h⟩:=Rs.bB h;injection h with _ h
 have:=(jc h1).1;have:=(jQ h2).1;have:=lP ws bE hm _ _ _ _ _ h3;have:=(jc h4).1;omega
theorem gw (ws:List Wd)(bE:List (Nat→Nat→Rs α)){p:Nat}(d:Nat)(hm:∀f∈bE,eO f∧Def f (p+1)):cq ws bE p d≠ .out:=by
 unfold cq;refine Rs.ba (lx _ _ _) fun u p1 h1=> ?_;refine Rs.ba (mC _ _) fun u2 p2 h2=> ?_;have:=(jc h1).1;have:=(jQ h2).1;refine Rs.ba (mW ws (p+1) bE hm _ _ _ (by omega)) fun xs p3 h3=> ?_;refine Rs.ba (lx _ _ _) fun u3 p4 h4=> ?_;exact fun h=>by cases h
theorem mL {ws:List Wd}{p q:Nat}{x:List Nat}(h:eV ws p= .ok x q):q=p+1∧x=(eU ws p).text∧(eU ws p).kind=3∧ef (eU ws p).text=false:=by
 unfold eV at h;split at h
 ·rename_i hs
  injection h with h1 h
  exact⟨h.symm,h1.symm,hs.1,hs.2⟩
 ·cases h
theorem oO (ws:List Wd)(p:Nat):eV ws p≠ .out:=by
 unfold eV;split<;>exact fun h=>by cases h
theorem p8 {ws:List Wd}{E0:Nat→Nat→Rs Ex}(hE:eO E0){op:Int}{k p d:Nat}{x:Ex}{q:Nat}(h:dK ws E0 op k p d= .ok x q):p<q:=by
 unfold dK at h;obtain⟨xs,p1,h1,h⟩:=Rs.bB h;injection h with _ h
 have:=fB ws _ (fun f hf=>(List.mem_replicate.1 hf).2▸hE) h1;omega
theorem qD {ws:List Wd}{E0:Nat→Nat→Rs Ex}(hE:eO E0){op:Int}{k p d:Nat}(hd:Def E0 (p+1)):dK ws E0 op k p d≠ .out:=by
 unfold dK;refine Rs.ba (gw ws _ d fun f hf=>(List.mem_replicate.1 hf).2▸⟨hE,hd.up (by omega)⟩) fun xs p1 h1=> ?_;exact fun h=>by cases h
theorem sn {ws:List Wd}{E0:Nat→Nat→Rs Ex}(hE:eO E0):eO (iS ws E0):=by
 intro p d x q h;unfold iS at h
 repeat' split at h
 all_goals first
  |exact p8 hE h
  |(injection h with _ h;omega)
  |(obtain⟨nm,p1,h1,h⟩:=Rs.bB h;injection h with _ h;have:=(mL h1).1;omega)
  |(obtain⟨xs,p1,h1,h⟩:=Rs.bB h;injection h with _ h;have:=fB ws _ (fun f hf=>(List.mem_singleton.1 hf)▸hE) h1;omega)
  |cases h
theorem uY {ws:List Wd}{E0:Nat→Nat→Rs Ex}(hE:eO E0){p d:Nat}(hd:Def E0 (p+1)):iS ws E0 p d≠ .out:=by
 unfold iS
 repeat' split
 all_goals first
  |exact qD hE hd
  |exact fun h=>by cases h
  |exact Rs.ba (oO _ _) fun nm p1 h1=>fun h=>by cases h
  |exact Rs.ba (gw ws _ d fun f hf=>(List.mem_singleton.1 hf)▸⟨hE,hd⟩) fun xs p1 h1=>fun h=>by cases h
theorem lW {S:Nat→Nat→Rs Ex}(hS:eO S)(op:Int):eO (fx S op):=by
 intro p d x q h;unfold fx at h;obtain⟨u,p1,h1,h⟩:=Rs.bB h;obtain⟨y,p2,h2,h⟩:=Rs.bB h;injection h with _ h
 have:=(jQ h1).1;have:=hS _ _ _ _ h2;omega
theorem na {S:Nat→Nat→Rs Ex}(op:Int){p d:Nat}(hS:Def S (p+1)):fx S op p d≠ .out:=by
 unfold fx;refine Rs.ba (mC _ _) fun u p1 h1=> ?_;have:=(jQ h1).1;exact Rs.ba (hS _ _ (by omega)) fun y p2 h2=>fun h=>by cases h
theorem jl {ws:List Wd}{S E0:Nat→Nat→Rs Ex}(hS:eO S)(hE:eO E0):eO (dt ws S E0):=by
 intro p d x q h;unfold dt at h;split at h
 ·exact lW hS _ _ _ _ _ h
 ·split at h
  ·exact lW hS _ _ _ _ _ h
  ·exact sn hE _ _ _ _ h
theorem sz {ws:List Wd}{S E0:Nat→Nat→Rs Ex}(hE:eO E0){p d:Nat}(hS:Def S (p+1))(hd:Def E0 (p+1)):dt ws S E0 p d≠ .out:=by
 unfold dt;split
 ·exact na _ hS
 ·split
  ·exact na _ hS
  ·exact uY hE hd
end
structure xq (f:PF):Prop where
 E:∀lvl,eO (f.E lvl)
 L:∀lvl x p d a q,f.L lvl x p d= .ok a q→p≤q
 S:eO f.S
theorem j9 {ws:List Wd}{f:PF}(h:xq f){lvl:Nat}{x:Ex}{p d:Nat}{a:Ex}{q:Nat}(hl:eW ws f lvl x p d= .ok a q):p≤q:=by
 unfold eW at hl
 cases ho:opAt ws lvl p with
 |none=>rw[ho] at hl;injection hl with _ hl;omega
 |some op=>
  rw[ho] at hl;obtain⟨r,p1,h1,hl⟩:=Rs.bB hl;have:=h.E _ _ _ _ _ h1;split at hl
  ·injection hl with _ hl;omega
  ·have:=h.L _ _ _ _ _ _ hl;omega
theorem lD {L:Nat→Ex→Nat→Nat→Rs Ex}{S:Nat→Nat→Rs Ex}(hL:∀lvl x p d a q,L lvl x p d= .ok a q→p≤q)(hS:eO S):∀j,eO (p5 L S j)
 |0=>hS
 |j+1=>fun p d a q h=>by
  rw[p5] at h;obtain⟨x,p1,h1,h⟩:=Rs.bB h;have:=lD hL hS j _ _ _ _ h1;have:=hL _ _ _ _ _ _ h;omega
theorem fT (ws:List Wd):∀n,xq (bK ws n)
 |0=>⟨fun _ _ _ _ _ h=>(by cases h),fun _ _ _ _ _ _ h=>(by cases h),fun _ _ _ _ h=>(by cases h)⟩
 |n+1=>by
  have ih:=fT ws n;have hL:∀lvl x p d a q,eW ws (bK ws n) lvl x p d= .ok a q→p≤q:=fun lvl x p d a q h=>j9 ih h;have hS:=jl (ws:=ws) ih.S (ih.E 0);exact⟨fun lvl=>lD hL hS _,hL,hS⟩
theorem xP {ws:List Wd}{lvl p:Nat}{op:Int}(h:opAt ws lvl p=some op):p<ws.length:=by
 rcases Nat.lt_or_ge p ws.length with h1|h1
 ·exact h1
 ·unfold opAt eU at h
  rw[List.getD_eq_getElem?_getD,List.getElem?_eq_none h1] at h;simp at h
structure Ap (f:PF)(m:Nat):Prop where
 E:∀lvl,Def (f.E lvl) m
 L:∀lvl x p d,m≤p→f.L lvl x p d≠ .out
 S:Def f.S m
theorem ua {ws:List Wd}{f:PF}(hm:xq f){m:Nat}(h:Ap f (m+1)){lvl:Nat}{x:Ex}{p d:Nat}(hp:m≤p):eW ws f lvl x p d≠ .out:=by
 unfold eW
 cases ho:opAt ws lvl p with
 |none=>exact fun h=>by cases h
 |some op=>
  refine Rs.ba (h.E _ _ _ (by omega)) fun r p1 h1=> ?_;have:=hm.E _ _ _ _ _ h1;split
  ·exact fun h=>by cases h
  ·exact h.L _ _ _ _ (by omega)
theorem n0 {L:Nat→Ex→Nat→Nat→Rs Ex}{S:Nat→Nat→Rs Ex}{m:Nat}(hLm:∀lvl x p d a q,L lvl x p d= .ok a q→p≤q)(hSm:eO S)(hL:∀lvl x p d,m≤p→L lvl x p d≠ .out)(hS:Def S m):∀j,Def (p5 L S j) m
 |0=>hS
 |j+1=>fun p d hp=>by
  rw[p5];refine Rs.ba (n0 hLm hSm hL hS j _ _ hp) fun x p1 h1=> ?_;have:=lD hLm hSm j _ _ _ _ h1;exact hL _ _ _ _ (by omega)
theorem tE {ws:List Wd}{p:Nat}(h:ws.length≤p):eU ws p=⟨-1,[],0,0⟩:=by
 unfold eU;rw[List.getD_eq_getElem?_getD,List.getElem?_eq_none h];rfl
theorem sB {ws:List Wd}{p:Nat}(h:ws.length≤p)(S E0:Nat→Nat→Rs Ex)(d:Nat):dt ws S E0 p d= .bad p false:=by
 unfold dt uF iS;rw[tE h];rfl
theorem uQ {ws:List Wd}{p:Nat}(h:ws.length≤p)(f:PF)(lvl:Nat)(x:Ex)(d:Nat):eW ws f lvl x p d= .ok x p:=by
 unfold eW
 cases ho:opAt ws lvl p with
 |none=>rfl
 |some op=>have:=xP ho;omega
theorem oQ (ws:List Wd):∀n m,ws.length<n+1+m→Ap (bK ws (n+1)) m
 |0,m,h=>by
  have im:=fT ws 0;have hLm:∀lvl x p d a q,eW ws (bK ws 0) lvl x p d= .ok a q→p≤q:=fun lvl x p d a q h=>j9 im h;have hSm:=jl (ws:=ws) im.S (im.E 0);have hL:∀lvl x p d,m≤p→eW ws (bK ws 0) lvl x p d≠ .out:=fun lvl x p d hp=>by rw[uQ (by omega)];exact fun h=>by cases h
  have hS:Def (dt ws (bK ws 0).S ((bK ws 0).E 0)) m:=fun p d hp=>by rw[sB (by omega)];exact fun h=>by cases h
  exact⟨fun lvl=>n0 hLm hSm hL hS _,hL,hS⟩
 |n+1,m,h=>by
  have ih:=oQ ws n (m+1) (by omega);have im:=fT ws (n+1);have hLm:∀lvl x p d a q,eW ws (bK ws (n+1)) lvl x p d= .ok a q→p≤q:=fun lvl x p d a q h=>j9 im h;have hSm:=jl (ws:=ws) im.S (im.E 0);have hL:∀lvl x p d,m≤p→eW ws (bK ws (n+1)) lvl x p d≠ .out:=fun lvl x p d hp=>ua im ih hp;have hS:Def (dt ws (bK ws (n+1)).S ((bK ws (n+1)).E 0)) m:=fun p d hp=>sz (im.E 0) (ih.S.up (by omega)) ((ih.E 0).up (by omega));exact⟨fun lvl=>n0 hLm hSm hL hS _,hL,hS⟩
theorem Rs.xD {α β:Type}{r:Rs α}{f:α→β}{b:β}{q:Nat}(h:r.map f= .ok b q):∃a,r= .ok a q∧b=f a:=by
 unfold Rs.map at h;obtain⟨a,p,h1,h⟩:=Rs.bB h;injection h with h2 h3
 exact⟨a,by rw[h1,h3],h2.symm⟩
theorem oG {E0:Nat→Nat→Rs Ex}{T:Nat→Nat→Rs Tm}{n m:Nat}{f:Nat→Nat→Rs Part}(h:f∈iN E0 T n m):f=(fun p d=>(E0 p d).map .inl)∨f=(fun p d=>(T p d).map .inr):=by
 unfold iN at h;rcases List.mem_append.1 h with h|h
 ·exact .inl (List.mem_replicate.1 h).2
 ·exact .inr (List.mem_replicate.1 h).2
theorem ng {E0:Nat→Nat→Rs Ex}{T:Nat→Nat→Rs Tm}(hE:eO E0)(hT:eO T){n m:Nat}:∀f∈iN E0 T n m,eO f:=fun f hf p d a q h=>by
 rcases oG hf with rfl|rfl
 ·obtain⟨x,h1,-⟩:=Rs.xD h
  exact hE _ _ _ _ h1
 ·obtain⟨x,h1,-⟩:=Rs.xD h
  exact hT _ _ _ _ h1
theorem u5 {E0:Nat→Nat→Rs Ex}{T:Nat→Nat→Rs Tm}{k:Nat}(hE:Def E0 k)(hT:Def T k){n m:Nat}:∀f∈iN E0 T n m,Def f k:=fun f hf p d hp=>by
 rcases oG hf with rfl|rfl
 ·exact Rs.ba (hE _ _ hp) fun a q h=>fun h=>by cases h
 ·exact Rs.ba (hT _ _ hp) fun a q h=>fun h=>by cases h
theorem sb {ws:List Wd}{E0:Nat→Nat→Rs Ex}{T:Nat→Nat→Rs Tm}(hE:eO E0)(hT:eO T):eO (gh ws E0 T):=by
 intro p d x q h;unfold gh at h
 repeat' split at h
 ·cases h
 ·injection h with _ h;omega
 ·obtain⟨xs,p1,h1,h⟩:=Rs.bB h
  injection h with _ h
  have:=fB ws _ (fun f hf=>(List.mem_singleton.1 hf)▸fun p d a q h=>by have:=(mL h).1;omega) h1;omega
 ·cases h
 ·obtain⟨xs,p1,h1,h⟩:=Rs.bB h
  injection h with _ h
  have:=fB ws _ (ng hE hT) h1;omega
theorem u7 {ws:List Wd}{E0:Nat→Nat→Rs Ex}{T:Nat→Nat→Rs Tm}(hE:eO E0)(hT:eO T){p d:Nat}(dE:Def E0 (p+1))(dT:Def T (p+1)):gh ws E0 T p d≠ .out:=by
 unfold gh
 repeat' split
 ·exact fun h=>by cases h
 ·exact fun h=>by cases h
 ·refine Rs.ba (gw ws _ d fun f hf=>(List.mem_singleton.1 hf)▸⟨fun p d a q h=>by have:=(mL h).1;omega,fun p d _=>oO ws p⟩) fun xs p1 h1=>fun h=>by cases h
 ·exact fun h=>by cases h
 ·refine Rs.ba (gw ws _ d fun f hf=>⟨ng hE hT f hf,u5 (dE.up (by omega)) (dT.up (by omega)) f hf⟩) fun xs p1 h1=>fun h=>by cases h
theorem nd (ws:List Wd):∀n,eO (lR ws n)
 |0=>fun _ _ _ _ h=>(by cases h)
 |n+1=>fun p d x q h=>sb ((fT ws (n+1)).E 0) (nd ws n) p d x q h
theorem ud {ws:List Wd}{p:Nat}(h:ws.length≤p)(E0:Nat→Nat→Rs Ex)(T:Nat→Nat→Rs Tm)(d:Nat):gh ws E0 T p d= .bad p false:=by
 unfold gh;rw[tE h];rfl
theorem pD (ws:List Wd):∀n m,ws.length<n+1+m→Def (lR ws (n+1)) m
 |0,m,h=>fun p d hp=>by
  show gh ws _ _ p d≠ .out;rw[ud (by omega)];exact fun h=>by cases h
 |n+1,m,h=>fun p d hp=>by
  have hE:=(oQ ws (n+1) (m+1) (by omega)).E 0;have hT:=pD ws n (m+1) (by omega);exact u7 ((fT ws (n+2)).E 0) (nd ws (n+1)) (hE.up (by omega)) (hT.up (by omega))
def iT (ws:List Wd):Rs Tm:=lR ws (ws.length+1) 0 0
theorem mS (ws:List Wd):iT ws≠ .out:=pD ws ws.length 0 (by omega) 0 0 (Nat.le_refl _)
section
variable {P:Program} {n:Nat} {F:List (Nat × Value)} {w:World} {v v':Value}
theorem ai.wS {fn:Func}{R:Ending→World→Prop}{e:Exit}{p q s g:Nat}{ty t:TypeId}{cs:Array Value}{dsc:TypeDesc}(hr:fn.results= #[.cell p ty, .tmp q, .tmp s]) (hl:look F p=some (.pointer (some ⟨g,0,none⟩))) (hq:look F q=some v) (hq':look F s=some v') (hb:aQ w g t cs) (hu:P.underlying ty=some dsc)
  (hd:(match dsc with| .struct _| .array _ _=>true|_=>false)=true) {m:Nat} (hs:dr P ty m=true) (hm:cs.size=m) (he:e= .ret∨e= .normal) (h:R (.returned (.tuple #[.agg cs,v,v'])) w):ai (bodyPost P fn R) e n F w:=by
 refine ai.end_ (fun a ha=> ?_) he h
 ·have hp':a.tmps[p]?.getD undef= .pointer (some ⟨g,0,none⟩):=by simp[ha.slot p _ hl]
  have e:=run_loadVar_row (P:=P) w g t ty cs (0,0) dsc hb hu (by cases dsc<;>first|rfl|(simp at hd)) (by obtain⟨inf,hi,hsz⟩:=bH hs;rw[hi,hm,←hsz];rfl);simp[results,hr,hp',asAddr,e,ha.slot q _ hq,ha.slot s _ hq']
end
def gH:Tm:= .mk 0 [] [] []
theorem dW.zero (W:World)(S:Nat→Prop):dW W S gH (.agg #[.int .i64 0, .string (strOf []), .slice none 0 0, .slice none 0 0]):=
 .mk (vs:=[]) (us:=[]) rfl rfl (by simp) (by simp) (by unfold bM;decide) (by simp) (by simp) (fun i e v h=>by simp at h) (fun i e v h=>by simp at h) (fun h=>absurd rfl h) (fun h=>absurd rfl h)
def cU (l:List Nat):Tm × Nat × Int:=if(cN l (iT (bl l).1)).2≠0 then(gH,(cN l (iT (bl l).1)).1,(cN l (iT (bl l).1)).2) else match iT (bl l).1 with
 | .ok x _=>if dU x=true then(x,0,0) else(gH,0,13)
 |_=>(gH,0,0)
theorem rY {α:Type}{l:List Nat}{r:Rs α}(h:(cN l r).2=0):(cN l r).1=0:=by
 unfold cN at h⊢
 by_cases h4:4000<l.length
 ·rw[if_pos h4]
 ·rw[if_neg h4] at h⊢
  cases h2:(bl l).2 with
  |some p=>rw[h2] at h;cases h
  |none=>
   rw[h2] at h
   cases r with
   |out=>rfl
   |bad p ov=>cases ov<;>cases h
   |ok a p=>
    dsimp only at h⊢;split at h
    ·rename_i h3;rw[if_pos h3]
    ·cases h
theorem zQ.kept {gt:Nat}{w W0 W W':World}{a:Tm}{g:Nat}(h:zQ gt W0 a W)(hgt:gt<w.heap.size)(h2:w.heap.size≤g)(h3:g<W0.heap.size)(h4:W0.heap.size≤W.heap.size)(h5:W.heap.size≤W'.heap.size)(h6:∀k,k<W.heap.size→k≠g→W'.heap[k]? =W.heap[k]?):zQ gt w a W':=by
 obtain⟨S,v,h7,h8,h9⟩:=h;refine⟨S,v,?_,h8.mono (fun _ h=>h) (fun p hp=>World.cell?_of_block (h6 _ (h9 _ hp).2 (by have:=(h9 _ hp).1;omega))),fun b hb=>⟨by have:=(h9 b hb).1;omega,by have:=(h9 b hb).2;omega⟩⟩;unfold aQ at h7⊢;rw[h6 gt (by omega) (by omega)];exact h7
theorem kx (w:World):(Instr.build 71 #[]).run Tryz.prog w= .ok (.agg #[.int .i64 0, .string (strOf []), .slice none 0 0, .slice none 0 0]) w:=by kernel_rfl
theorem ur (l:List Nat)(w:World)(hl:∀x∈l,x<256)(hlen:l.length≤9223372036854775807):
  Calls Tryz.prog 81 #[.string (strOf l)] w fun e w'=>Below w.heap.size w w'∧∃(v:Value) (S:Nat→Prop),e= .returned (.tuple #[v, .int .i64 ((cU l).2.1:Int), .int .i64 (cU l).2.2])∧dW w' S (cU l).1 v∧∀b,S b→w.heap.size≤b∧b<w'.heap.size:=by
 have bel:=Below.refl w.heap.size w;refine Zs 27 Tryz.func81 ?_;refine aw ?_;refine Zl bC ?_;intro g2 w1 n2;have e2:=Nat.le_trans bel.size n2.ge;replace bel:=bel.step n2.below;have k2:=n2.aE;refine Za ?_;refine Za ?_;refine bI 0 2 3 4 (aN ?_);refine Zl bC ?_;intro g5 w2 n5;have e5:=Nat.le_trans bel.size n5.ge;have l5:=Nat.lt_of_lt_of_le k2.lt n5.ge;replace bel:=bel.step n5.below;replace k2:=k2.step n5.below;have k5:=n5.aE;refine br 0 2 3 4 5 (aN ?_);refine Zm ?_;refine Zv (ah.makeFunc (v:= .func (.func 127) #[] #[.pointer (some ⟨g5,0,none⟩)]) rfl (show gx _ _=some [] from rfl) (show gx _ _=some [.pointer (some ⟨g5,0,none⟩)] from rfl) rfl) ?_;have hg5:=k5.lt
 have hps:=sU l hl hlen 127 [.pointer (some ⟨g5,0,none⟩)] g5 (iT (bl l).1) (zQ g5) (zQ g5 w2) w2 (Nat.le_of_lt hg5) (fun args w=>bc Tryz.func127 (by kernel_rfl) rfl args w) (mS _)
  (fun a W0 W W' g h1 h2 h3 h4 h5 h6=>h1.kept hg5 h2 h3 h4 h5 h6)
  (fun K hK hw h2 hg hA W hb hp=>by
   have:=sG K hK ((bl l).1.length+1) g5 g5 W hp (k5.step hb) (by omega) (Nat.le_refl _) (fun ad ha=>by have:=hA ad ha;omega) (by rw[hw];exact mS _);rw[hw] at this;exact this)
 refine Zc (Ze Tryz.func126) (hps) ?_;rintro e w6 ⟨hb6,kp6,rfl,hok⟩;refine⟨_,rfl,?_⟩;have bel6:Below w.heap.size w w6:=bel.trans (hb6.mono e5);have k2':aQ w6 g2 71 _:=(show w6.heap[g2]? =w2.heap[g2]? from hb6.block g2 l5).trans k2;have hlt6:=bel6.size;clear bel k5 k2;have bel:=bel6;have k2:=k2';have hA:=rY (l:=l) (r:=iT (bl l).1);obtain⟨z,hz⟩:∃z,(cN l (iT (bl l).1)).2=z:=⟨_,rfl⟩;obtain⟨y,hy⟩:∃y,(cN l (iT (bl l).1)).1=y:=⟨_,rfl⟩;rw[hz] at hok hA⊢;rw[hy] at hA⊢
 by_cases hz0:z=0
 ·obtain⟨x,q,hx,S,v,k5,hrep,hS⟩:=hok hz0
  have hps2:cU l=if dU x=true then(x,0,0) else(gH,0,13):=by unfold cU;rw[if_neg (by rw[hz];exact fun h=>h hz0),hx]
  obtain rfl:=hA hz0;subst hz0;have hrb:fZ w6 w6.heap.size x v:=hrep.mono (fun b hb=>(hS b hb).2) (fun _ _=>rfl);obtain⟨A,c,A',c',rfl⟩:=hrep.form;have hri:=uu x w6.heap.size _ w6 hrb (Nat.le_refl _);have k5:aQ w6 g5 71 #[.int .i64 x.op, .string (strOf x.name), .slice A x.exprs.length c, .slice A' x.aS.length c']:=k5
  generalize dU x=b at *
  refine Zm ?_;refine Zx ?_;refine Zx ?_;refine Za ?_;refine Za ?_;refine bU 0 2 3 4 5 6 7 (bo (aw ?_));refine Zm ?_;refine Zv ((ah.gU rfl rfl rfl).lN (rfl)) ?_;refine Zm ?_;refine Seq.aH (ah.fp rfl rfl Tryz.underlying71 rfl k5 (m:=4) (by kernel_rfl) rfl) rfl rfl rfl rfl rfl ?_;refine Seq.yX (Ze Tryz.func99) rfl rfl rfl rfl rfl (hri) ?_;rintro e w7 ⟨rfl,hb7⟩;refine⟨_,rfl,?_⟩;replace bel:=bel.step hb7;replace k2:=k2.step hb7;replace k5:=k5.step hb7;refine Seq.aH (ah.not rfl rfl) rfl rfl rfl rfl rfl ?_;refine Zv (ah.cZ rfl rfl rfl) ?_;have hw67:=hb7.size
  cases b with
  |true=>
   refine db 0 2 3 4 5 6 7 20 (Zt ?_);refine Cd.aR rfl rfl ?_;refine Cd.skip (bo (aw ?_));refine Zm ?_;refine po ?_;refine eP 0 2 3 4 5 6 7 20 22 (Zt ?_);refine Cd.aR rfl (by simp) ?_;refine Cd.skip (aN ?_);refine ZW 4 Tryz.underlying71 k5 ?_;refine Zo 4 k2 ?_;intro w3 pw3;replace bel:=bel.put k2 pw3 e2;replace k5:=k5.put pw3 (by omega);replace k2:=pw3.aE;refine Za ?_;refine Za ?_;refine eP 0 2 3 4 5 6 7 20 22 (Zt (Cd.ret ?_));refine ai.wS rfl rfl rfl rfl k2 Tryz.underlying71 rfl (m:=4) (by kernel_rfl) rfl (.inl rfl) ?_;rw[hps2,if_pos rfl];have hsz:=pw3.size;refine⟨bel, .agg #[.int .i64 x.op, .string (strOf x.name), .slice A x.exprs.length c, .slice A' x.aS.length c'],S,rfl,hrep.mono (fun _ h=>h) fun p hp=>World.cell?_of_block ?_,fun b hb=> ?_⟩
   ·have:=hS _ hp
    exact(pw3.grown.block _ (by omega) (fun e=>by injection e with e;omega)).trans (hb7.block _ this.2)
   ·have:=hS b hb
    have:=hb6.size;omega
  |false=>
   refine db 0 2 3 4 5 6 7 20 (Zt ?_);refine Cd.bb rfl rfl ?_;refine Zr ?_;refine Za ?_;refine db 0 2 3 4 5 6 7 20 (bo (aw ?_));refine Zm ?_;refine po ?_;refine eP 0 2 3 4 5 6 7 20 22 (Zt ?_);refine Cd.bb rfl (by simp) ?_;refine aw ?_;refine Zv (ah.build rfl rfl (kx _)) ?_;refine Zm ?_;refine Zm ?_;refine Zo 4 k2 ?_;intro w3 pw3;replace bel:=bel.put k2 pw3 e2;replace k5:=k5.put pw3 (by omega);replace k2:=pw3.aE;refine Za ?_;refine Za ?_;refine eP 0 2 3 4 5 6 7 20 22 (Zt (Cd.ret (ai.ar ?_)));refine ai.wS rfl rfl rfl rfl k2 Tryz.underlying71 rfl (m:=4) (by kernel_rfl) rfl (.inl rfl) ?_;rw[hps2,if_neg (by simp)];exact⟨bel, .agg #[.int .i64 0, .string (strOf []), .slice none 0 0, .slice none 0 0],fun _=>False,rfl,dW.zero _ _,fun b h=>h.elim⟩
 ·have hps2:cU l=(gH,y,z):=by unfold cU;rw[if_pos (by rw[hz];exact hz0),hy,hz]
  refine Zm ?_;refine Zx ?_;refine Zx ?_;refine Za ?_;refine Za ?_;refine bU 0 2 3 4 5 6 7 (bo (aw ?_));refine Zm ?_;refine Zv ((ah.gU rfl rfl rfl).j1 (hz0)) ?_;refine Zm ?_;refine Seq.lX rfl rfl rfl rfl rfl rfl ?_;refine Seq.lX rfl rfl rfl rfl rfl rfl ?_;refine Seq.lX rfl rfl rfl rfl rfl rfl ?_;refine Zv (ah.bR rfl rfl rfl) ?_;refine db 0 2 3 4 5 6 7 20 (Zt ?_);refine Cd.aR rfl rfl ?_;refine Cd.skip (bo (aw ?_));refine Zm ?_;refine po ?_;refine eP 0 2 3 4 5 6 7 20 22 (Zt ?_);refine Cd.bb rfl (by simpa using hz0) ?_;refine aw ?_;refine Zv (ah.build rfl rfl (kx _)) ?_;refine Zm ?_;refine Zm ?_;refine Zo 4 k2 ?_;intro w3 pw3;replace bel:=bel.put k2 pw3 e2;replace k2:=pw3.aE;refine Za ?_;refine Za ?_;refine eP 0 2 3 4 5 6 7 20 22 (Zt (Cd.ret (ai.ar ?_)));refine ai.wS rfl rfl rfl rfl k2 Tryz.underlying71 rfl (m:=4) (by kernel_rfl) rfl (.inl rfl) ?_;rw[hps2];exact⟨bel, .agg #[.int .i64 0, .string (strOf []), .slice none 0 0, .slice none 0 0],fun _=>False,rfl,dW.zero _ _,fun b h=>h.elim⟩
def j7 (c:Nat):Prop:=c≠32∧c≠9∧c≠10∧c≠35
theorem fc:∀(l:List Nat) (b:Bool) (c:Nat),l[dq l b]? =some c→j7 c
 | [],b,c,h=>by simp at h
 |d::l,true,c,h=>by
  rw[rI] at h;split at h
  ·exact fc l false c (by simpa using h)
  ·exact fc l true c (by simpa using h)
 |d::l,false,c,h=>by
  rw[nu] at h
  by_cases hb:iD d=true
  ·rw[if_pos hb] at h
   exact fc l false c (by simpa using h)
  ·rw[if_neg hb] at h
   by_cases h35:d=35
   ·rw[if_pos h35] at h
    exact fc l true c (by simpa using h)
   ·rw[if_neg h35] at h
    simp at h;subst h;unfold iD at hb;simp at hb;exact⟨hb.1.1,hb.1.2,hb.2,h35⟩
theorem sJ {l:List Nat}{q c:Nat}(h:l[q+cn (l.drop q)]? =some c):j7 c:=
 fc (l.drop q) false c (by rw[List.getElem?_drop];exact h)
theorem rk (l:List Nat):∀f p,(∀c,l[p]? =some c→j7 c)→(∀x∈(fS f l p).1,∃c,l[x.pos]? =some c∧j7 c)∧∀q,(fS f l p).2=some q→∃c,l[q]? =some c∧j7 c
 |0,p,_=>⟨fun x h=>by simp[fS] at h,fun q h=>by simp[fS] at h⟩
 |f+1,p,hp=>by
  rcases Nat.lt_or_ge p l.length with hlt|hge
  ·have hc:l[p]? =some l[p]:=List.getElem?_eq_getElem hlt
   rw[jE f l p hlt]
   cases hn:js (l.drop p) with
   |none=>
    exact⟨fun x h=>by simp at h,fun q h=>by injection h with h;subst h;exact⟨_,hc,hp _ hc⟩⟩
   |some z=>
    obtain⟨k,t,n⟩:=z;obtain⟨h1,h2⟩:=rk l f (p+t.length+cn (l.drop (p+t.length))) (fun c h=>sJ h);refine⟨fun x h=> ?_,h2⟩;rcases List.mem_cons.1 h with rfl|h
    ·exact⟨_,hc,hp _ hc⟩
    ·exact h1 x h
  ·rw[kH _ _ _ hge]
   exact⟨fun x h=>by simp at h,fun q h=>by simp at h⟩
theorem mR (l:List Nat):(∀x∈(bl l).1,∃c,l[x.pos]? =some c∧j7 c)∧∀q,(bl l).2=some q→∃c,l[q]? =some c∧j7 c:=
 rk l (l.length+1) (cn l) fun c h=>fc l false c h
theorem pt (l:List Nat)(p:Nat):endPos l p=l.length∨∃c,l[endPos l p]? =some c∧j7 c:=by
 unfold endPos;rw[List.getD_eq_getElem?_getD]
 cases h:(bl l).1[p]? with
 |none=>exact .inl rfl
 |some x=>exact .inr ((mR l).1 x (List.mem_of_getElem? h))
theorem wy {α:Type}(l:List Nat)(r:Rs α):(cN l r=(0,0)∧l.length≤4000)∨(cN l r=(0,4)∧4000<l.length)∨(cN l r=(0,13)∧l.length≤4000)∨
  ∃p,cN l r=(p,11)∧l.length≤4000∧(p=l.length∨∃c,l[p]? =some c∧j7 c):=by
 unfold cN
 by_cases h4:4000<l.length
 ·rw[if_pos h4];exact .inr (.inl ⟨rfl,h4⟩)
 ·rw[if_neg h4]
  have h4':l.length≤4000:=by omega
  cases h2:(bl l).2 with
  |some p=>exact .inr (.inr (.inr ⟨p,rfl,h4', .inr ((mR l).2 p h2)⟩))
  |none=>
   cases r with
   |out=>exact .inl ⟨rfl,h4'⟩
   |bad p ov=>
    cases ov with
    |true=>exact .inr (.inr (.inl ⟨rfl,h4'⟩))
    |false=>exact .inr (.inr (.inr ⟨_,rfl,h4',pt l p⟩))
   |ok a p=>
    dsimp only
    by_cases h3:p=(bl l).1.length
    ·rw[if_pos h3];exact .inl ⟨rfl,h4'⟩
    ·rw[if_neg h3];exact .inr (.inr (.inr ⟨_,rfl,h4',pt l p⟩))
theorem vm (l:List Nat):(∃t,cU l=(t,0,0)∧dU t=true∧l.length≤4000)∨(cU l=(gH,0,4)∧4000<l.length)∨(cU l=(gH,0,13)∧l.length≤4000)∨
  ∃p,cU l=(gH,p,11)∧l.length≤4000∧(p=l.length∨∃c,l[p]? =some c∧j7 c):=by
 unfold cU;rcases wy l (iT (bl l).1) with ⟨h,h4⟩|⟨h,h4⟩|⟨h,h4⟩|⟨p,h,h4,hp⟩
 ·rw[h,if_neg (by simp)]
  have hz:∀(z:Tm × Nat × Int),True:=fun _=>trivial
  cases hr:iT (bl l).1 with
  |out=>exact absurd hr (mS _)
  |bad p ov=>
   exfalso;rw[hr] at h;unfold cN at h;rw[if_neg (by omega)] at h
   cases h2:(bl l).2 with
   |some p=>rw[h2] at h;cases h
   |none=>rw[h2] at h;cases ov<;>simp at h
  |ok x q=>
   dsimp only
   by_cases hx:dU x=true
   ·rw[if_pos hx];exact .inl ⟨x,rfl,hx,h4⟩
   ·rw[if_neg hx];exact .inr (.inr (.inl ⟨rfl,h4⟩))
 ·rw[h,if_pos (by simp)];exact .inr (.inl ⟨rfl,h4⟩)
 ·rw[h,if_pos (by simp)];exact .inr (.inr (.inl ⟨rfl,h4⟩))
 ·rw[h,if_pos (by simp)];exact .inr (.inr (.inr ⟨p,rfl,h4,hp⟩))
section
variable {α β:Type} {ws:List Wd} {j:Nat}
end
section
variable {α β:Type} {ws:List Wd}
end
section
variable {α:Type} {sx:World→(Nat→Prop)→α→Value→Prop} {K:Ctx} {w1 w w6:World} {p:Nat} {o:Int} {dp bd:Bool} {pf:α→Nat→Int→Bool→Bool→Prop} {S:Nat→Bool} {x x6:α} {S' S6:Nat→Prop} {v v6:Value} {g7:Nat} {zt:TypeId}
end
section
variable {K:Ctx} {w1 w w6:World} {p:Nat} {o:Int} {dp bd:Bool} {S:Nat→Bool} {S':Nat→Prop} {v:Value} {g7 g8:Nat} {zt:TypeId} {n:Nat}
end
section
variable {α:Type} {ws:List Wd}
end
section
variable {α β:Type} {r:Rs α} {d p:Nat} {x:α} {o:Int} {dp bd:Bool}
end
section
variable {β:Type}
variable {p0 q d:Nat} {R:Rs β} {o:Int} {dp bd:Bool}
end
structure zl (lo hi:Nat)(S:Nat→Prop)(x:Tm)(v:Value)(W:World):Prop where
 rep:dW W S x v
 bd:∀b,S b→lo≤b∧b<hi
 hO:hi≤W.heap.size
theorem zl.step {lo hi:Nat}{S:Nat→Prop}{x:Tm}{v:Value}{W W':World}(r:zl lo hi S x v W)(h:Below W.heap.size W W'):zl lo hi S x v W':=
 ⟨r.rep.mono (fun _ h=>h) (fun a ha=>h.cell (Nat.lt_of_lt_of_le (r.bd _ ha).2 r.hO)),r.bd,Nat.le_trans r.hO h.size⟩
theorem zl.put {lo hi g:Nat}{T:TypeId}{cur cs:Array Value}{S:Nat→Prop}{x:Tm}{v:Value}{W W':World}(r:zl lo hi S x v W)(_k:aQ W g T cur)(p:kW W W' g T cs){E:Prop}(_e:E)(hne:g<lo∨hi≤g:=by omega):zl lo hi S x v W':=
 ⟨r.rep.mono (fun _ h=>h) (fun a ha=>World.cell?_of_block (p.grown.block _ (Nat.lt_of_lt_of_le (r.bd _ ha).2 r.hO) (fun e=>by injection e with e;have:=r.bd _ ha;omega))),r.bd,Nat.le_trans r.hO (Nat.le_of_eq p.size.symm)⟩
open Go.ChangeShapes Go.WideShapes Go.Deep Go.RowKit
set_option maxRecDepth 100000 in
theorem open_int {W:World}{base t:Nat}{v:Value}{k:IntKind}(hu:Tryz.prog.underlying t=some (.int k))(hv:Value.okWide Tryz.prog W .any base t v):∃n,v= .int k n∧k.has n:=by
 obtain⟨n,rfl⟩:=okWide_int hu hv;simp only[Value.okWide,hu,Cell.okWide] at hv;exact⟨n,rfl,by simpa[Cell.ok,hu] using hv⟩
set_option maxRecDepth 100000 in
theorem vK {W:World}{base t:Nat}{v:Value}(hu:Tryz.prog.underlying t=some (.int .i64))(hv:Value.okWide Tryz.prog W .any base t v):∃n,v= .int .i64 n∧bM n:=by
 obtain⟨n,rfl,h⟩:=open_int hu hv;exact⟨n,rfl,h.1,h.2⟩
structure Ev where
 kind:Int
 id:List Nat
 a:List Nat
 b:List Nat
 text:List Nat
 day:Int
 at_:Int
 df:Int
 n:Int
deriving DecidableEq
def Ev.v (e:Ev):Value:= .agg #[.int .i64 e.kind, .string (strOf e.id), .string (strOf e.a), .string (strOf e.b), .string (strOf e.text), .int .i64 e.day, .int .i64 e.at_, .int .i64 e.df, .int .i64 e.n]
structure Ev.qu (e:Ev):Prop where
 kind:bM e.kind
 id:∀x∈e.id,x<256
 a:∀x∈e.a,x<256
 b:∀x∈e.b,x<256
 text:∀x∈e.text,x<256
 day:bM e.day
 at_:bM e.at_
 df:bM e.df
 n:bM e.n
 Au:e.id.length≤9223372036854775807
 la:e.a.length≤9223372036854775807
 lb:e.b.length≤9223372036854775807
 qZ:e.text.length≤9223372036854775807
theorem de:cv Tryz.prog 29=some (some (.agg #[.int .i64 0, .string {data:= #[]}, .string {data:= #[]}, .string {data:= #[]}, .string {data:= #[]}, .int .i64 0, .int .i64 0, .int .i64 0, .int .i64 0])):=by kernel_rfl
def Ev.same (a b:Ev):Bool:=a.kind==b.kind&&((strOf a.id).toList==(strOf b.id).toList&&((strOf a.a).toList==(strOf b.a).toList&&((strOf a.b).toList==(strOf b.b).toList&&((strOf a.text).toList==(strOf b.text).toList&&(a.day==b.day&&(a.at_==b.at_&&(a.df==b.df&&a.n==b.n)))))))
set_option maxRecDepth 100000 in
theorem tf (a b:Ev)(w:World):(binOp .neq 29 a.v b.v).run Tryz.prog w= .ok (.bool (!(a.same b))) w:=by
 have hu:=Tryz.underlying29;unfold Ev.same Ev.v
 go_simp
 repeat' split
 all_goals simp_all
theorem yO {a b:Ev}(ha:a.qu)(hb:b.qu):a.same b=decide (a=b):=by
 unfold Ev.same;rw[fH ha.id hb.id,fH ha.a hb.a,fH ha.b hb.b,fH ha.text hb.text,Bool.eq_iff_iff]
 cases a
 cases b
 simp
theorem mH (op:BinOp)(x y:Operand)(a b:Array Value)(w:World):(eqGuard op 29 x y (.agg a) (.agg b)).run Tryz.prog w= .ok () w:=by
 have h:Tryz.prog.eqGuardType Tryz.prog.depth 29=false:=by kernel_rfl
 cases op<;>simp[eqGuard,program,h,Sem.run_bind,Sem.run]
def gG (e:Ev):Ev:=
 if e.kind=1 then {e with id:=[],a:=[],b:=[],text:=[],day:=0}
 else if e.kind=2 then {e with day:=0}
 else if e.kind=3 then {e with a:=[],day:=0,n:=0}
 else if e.kind=4 then {e with id:=[],a:=[],at_:=0,df:=0}
 else if e.kind=5 then {e with id:=[],a:=[],b:=[]}
 else if e.kind=6 then {e with id:=[],a:=[]}
 else if e.kind=7 then {e with id:=[]}
 else e
set_option maxHeartbeats 2000000 in
theorem wu (e:Ev)(w:World):Calls Tryz.prog 34 #[e.v] w fun en w'=>en= .returned (gG e).v∧Grow w w':=by
 have bel:=Below.refl w.heap.size w;unfold Ev.v gG;refine Zs 39 Tryz.func34 ?_;refine aw ?_;refine Seq.box rfl rfl rfl rfl rfl ?_;intro g1 w1 n1;have e1:=Nat.le_trans bel.size n1.ge;replace bel:=bel.step n1.below;have k1:=n1.aE;refine Zl de ?_;intro g2 w2 n2;have e2:=Nat.le_trans bel.size n2.ge;have l2:=Nat.lt_of_lt_of_le k1.lt n2.ge;replace bel:=bel.step n2.below;replace k1:=k1.step n2.below;have k2:=n2.aE;refine bV 0 1 2 (bo (aw ?_));refine Zf 0 Tryz.underlying29 ?_;refine ZL Tryz.underlying3 k1 ?_;refine bI 0 1 2 4 (Zt (Cd.block (aw ?_)));refine bF ?_;refine Za ?_;refine br 0 1 2 4 5 (Zt ?_);refine Cd.aF rfl (fun h1=> ?_) (fun h1=> ?_)
 ·skip
  refine Zr ?_;refine Zf 1 Tryz.underlying29 ?_;refine Zq k1 ?_;intro w3 pw3;replace bel:=bel.put k1 pw3 e1;replace k2:=k2.put pw3 (by omega);replace k1:=pw3.aE;refine Zf 2 Tryz.underlying29 ?_;refine Zq k1 ?_;intro w4 pw4;replace bel:=bel.put k1 pw4 e1;replace k2:=k2.put pw4 (by omega);replace k1:=pw4.aE;refine Zf 3 Tryz.underlying29 ?_;refine Zq k1 ?_;intro w5 pw5;replace bel:=bel.put k1 pw5 e1;replace k2:=k2.put pw5 (by omega);replace k1:=pw5.aE;refine Zf 4 Tryz.underlying29 ?_;refine Zq k1 ?_;intro w6 pw6;replace bel:=bel.put k1 pw6 e1;replace k2:=k2.put pw6 (by omega);replace k1:=pw6.aE;refine Zf 5 Tryz.underlying29 ?_;refine Zq k1 ?_;intro w7 pw7;replace bel:=bel.put k1 pw7 e1;replace k2:=k2.put pw7 (by omega);replace k1:=pw7.aE;refine br 0 1 2 4 5 (ai.av (aN ?_));refine ZW 9 Tryz.underlying29 k1 ?_;refine Zo 9 k2 ?_;intro w8 pw8;replace bel:=bel.put k2 pw8 e2;replace k1:=k1.put pw8 (by omega);replace k2:=pw8.aE;refine br 0 1 2 4 5 (Zt (Cd.ret ?_));refine jy 9 k2 Tryz.underlying29 ?_;rw[if_pos h1];exact⟨rfl,bel⟩
 refine aw ?_;refine bF ?_;refine Za ?_;refine cg 0 1 2 4 5 12 (Zt ?_);refine Cd.aF rfl (fun h2=> ?_) (fun h2=> ?_)
 ·skip
  refine Zr ?_;refine Zf 5 Tryz.underlying29 ?_;refine Zq k1 ?_;intro w3 pw3;replace bel:=bel.put k1 pw3 e1;replace k2:=k2.put pw3 (by omega);replace k1:=pw3.aE;refine cg 0 1 2 4 5 12 (ai.av (aN ?_));refine ZW 9 Tryz.underlying29 k1 ?_;refine Zo 9 k2 ?_;intro w4 pw4;replace bel:=bel.put k2 pw4 e2;replace k1:=k1.put pw4 (by omega);replace k2:=pw4.aE;refine cg 0 1 2 4 5 12 (Zt (Cd.ret ?_));refine jy 9 k2 Tryz.underlying29 ?_;rw[if_neg h1];rw[if_pos h2];exact⟨rfl,bel⟩
 refine aw ?_;refine bF ?_;refine Za ?_;refine bU 0 1 2 4 5 12 15 (Zt ?_);refine Cd.aF rfl (fun h3=> ?_) (fun h3=> ?_)
 ·skip
  refine Zr ?_;refine Zf 2 Tryz.underlying29 ?_;refine Zq k1 ?_;intro w3 pw3;replace bel:=bel.put k1 pw3 e1;replace k2:=k2.put pw3 (by omega);replace k1:=pw3.aE;refine Zf 5 Tryz.underlying29 ?_;refine Zq k1 ?_;intro w4 pw4;replace bel:=bel.put k1 pw4 e1;replace k2:=k2.put pw4 (by omega);replace k1:=pw4.aE;refine Zf 8 Tryz.underlying29 ?_;refine Zq k1 ?_;intro w5 pw5;replace bel:=bel.put k1 pw5 e1;replace k2:=k2.put pw5 (by omega);replace k1:=pw5.aE;refine bU 0 1 2 4 5 12 15 (ai.av (aN ?_));refine ZW 9 Tryz.underlying29 k1 ?_;refine Zo 9 k2 ?_;intro w6 pw6;replace bel:=bel.put k2 pw6 e2;replace k1:=k1.put pw6 (by omega);replace k2:=pw6.aE;refine bU 0 1 2 4 5 12 15 (Zt (Cd.ret ?_));refine jy 9 k2 Tryz.underlying29 ?_;rw[if_neg h1];rw[if_neg h2];rw[if_pos h3];exact⟨rfl,bel⟩
 refine aw ?_;refine bF ?_;refine Za ?_;refine db 0 1 2 4 5 12 15 20 (Zt ?_);refine Cd.aF rfl (fun h4=> ?_) (fun h4=> ?_)
 ·skip
  refine Zr ?_;refine Zf 1 Tryz.underlying29 ?_;refine Zq k1 ?_;intro w3 pw3;replace bel:=bel.put k1 pw3 e1;replace k2:=k2.put pw3 (by omega);replace k1:=pw3.aE;refine Zf 2 Tryz.underlying29 ?_;refine Zq k1 ?_;intro w4 pw4;replace bel:=bel.put k1 pw4 e1;replace k2:=k2.put pw4 (by omega);replace k1:=pw4.aE;refine Zf 6 Tryz.underlying29 ?_;refine Zq k1 ?_;intro w5 pw5;replace bel:=bel.put k1 pw5 e1;replace k2:=k2.put pw5 (by omega);replace k1:=pw5.aE;refine Zf 7 Tryz.underlying29 ?_;refine Zq k1 ?_;intro w6 pw6;replace bel:=bel.put k1 pw6 e1;replace k2:=k2.put pw6 (by omega);replace k1:=pw6.aE;refine db 0 1 2 4 5 12 15 20 (ai.av (aN ?_));refine ZW 9 Tryz.underlying29 k1 ?_;refine Zo 9 k2 ?_;intro w7 pw7;replace bel:=bel.put k2 pw7 e2;replace k1:=k1.put pw7 (by omega);replace k2:=pw7.aE;refine db 0 1 2 4 5 12 15 20 (Zt (Cd.ret ?_));refine jy 9 k2 Tryz.underlying29 ?_;rw[if_neg h1];rw[if_neg h2];rw[if_neg h3];rw[if_pos h4];exact⟨rfl,bel⟩
 refine aw ?_;refine bF ?_;refine Za ?_;refine eP 0 1 2 4 5 12 15 20 26 (Zt ?_);refine Cd.aF rfl (fun h5=> ?_) (fun h5=> ?_)
 ·skip
  refine Zr ?_;refine Zf 1 Tryz.underlying29 ?_;refine Zq k1 ?_;intro w3 pw3;replace bel:=bel.put k1 pw3 e1;replace k2:=k2.put pw3 (by omega);replace k1:=pw3.aE;refine Zf 2 Tryz.underlying29 ?_;refine Zq k1 ?_;intro w4 pw4;replace bel:=bel.put k1 pw4 e1;replace k2:=k2.put pw4 (by omega);replace k1:=pw4.aE;refine Zf 3 Tryz.underlying29 ?_;refine Zq k1 ?_;intro w5 pw5;replace bel:=bel.put k1 pw5 e1;replace k2:=k2.put pw5 (by omega);replace k1:=pw5.aE;refine eP 0 1 2 4 5 12 15 20 26 (ai.av (aN ?_));refine ZW 9 Tryz.underlying29 k1 ?_;refine Zo 9 k2 ?_;intro w6 pw6;replace bel:=bel.put k2 pw6 e2;replace k1:=k1.put pw6 (by omega);replace k2:=pw6.aE;refine eP 0 1 2 4 5 12 15 20 26 (Zt (Cd.ret ?_));refine jy 9 k2 Tryz.underlying29 ?_;rw[if_neg h1];rw[if_neg h2];rw[if_neg h3];rw[if_neg h4];rw[if_pos h5];exact⟨rfl,bel⟩
 refine aw ?_;refine bF ?_;refine Za ?_;refine fO 0 1 2 4 5 12 15 20 26 31 (Zt ?_);refine Cd.aF rfl (fun h6=> ?_) (fun h6=> ?_)
 ·skip
  refine Zr ?_;refine Zf 1 Tryz.underlying29 ?_;refine Zq k1 ?_;intro w3 pw3;replace bel:=bel.put k1 pw3 e1;replace k2:=k2.put pw3 (by omega);replace k1:=pw3.aE;refine Zf 2 Tryz.underlying29 ?_;refine Zq k1 ?_;intro w4 pw4;replace bel:=bel.put k1 pw4 e1;replace k2:=k2.put pw4 (by omega);replace k1:=pw4.aE;refine fO 0 1 2 4 5 12 15 20 26 31 (ai.av (aN ?_));refine ZW 9 Tryz.underlying29 k1 ?_;refine Zo 9 k2 ?_;intro w5 pw5;replace bel:=bel.put k2 pw5 e2;replace k1:=k1.put pw5 (by omega);replace k2:=pw5.aE;refine fO 0 1 2 4 5 12 15 20 26 31 (Zt (Cd.ret ?_));refine jy 9 k2 Tryz.underlying29 ?_;rw[if_neg h1];rw[if_neg h2];rw[if_neg h3];rw[if_neg h4];rw[if_neg h5];rw[if_pos h6];exact⟨rfl,bel⟩
 refine aw ?_;refine bF ?_;refine Za ?_;refine eT 0 1 2 4 5 12 15 20 26 31 35 (Zt ?_);refine Cd.aF rfl (fun h7=> ?_) (fun h7=> ?_)
 ·skip
  refine Zr ?_;refine Zf 1 Tryz.underlying29 ?_;refine Zq k1 ?_;intro w3 pw3;replace bel:=bel.put k1 pw3 e1;replace k2:=k2.put pw3 (by omega);replace k1:=pw3.aE;refine eT 0 1 2 4 5 12 15 20 26 31 35 (ai.av (aN ?_));refine ZW 9 Tryz.underlying29 k1 ?_;refine Zo 9 k2 ?_;intro w4 pw4;replace bel:=bel.put k2 pw4 e2;replace k1:=k1.put pw4 (by omega);replace k2:=pw4.aE;refine eT 0 1 2 4 5 12 15 20 26 31 35 (Zt (Cd.ret ?_));refine jy 9 k2 Tryz.underlying29 ?_;rw[if_neg h1];rw[if_neg h2];rw[if_neg h3];rw[if_neg h4];rw[if_neg h5];rw[if_neg h6];rw[if_pos h7];exact⟨rfl,bel⟩
 refine Cd.skip (ai.av (aN ?_));refine ZW 9 Tryz.underlying29 k1 ?_;refine Zo 9 k2 ?_;intro w3 pw3;replace bel:=bel.put k2 pw3 e2;replace k1:=k1.put pw3 (by omega);replace k2:=pw3.aE;refine eT 0 1 2 4 5 12 15 20 26 31 35 (Zt (Cd.ret ?_));refine jy 9 k2 Tryz.underlying29 ?_;rw[if_neg h1,if_neg h2,if_neg h3,if_neg h4,if_neg h5,if_neg h6,if_neg h7];exact⟨rfl,bel⟩
theorem zA (n:Int)(w:World):Calls Tryz.prog 37 #[.int .i64 n] w fun en w'=>en= .returned (.bool (decide (0≤n)&&decide (n≤2932896)))∧Grow w w':=by
 have bel:=Below.refl w.heap.size w;refine Zs 9 Tryz.func37 ?_;refine aw ?_;refine Za ?_;refine eh 0 2 (aN ?_);refine Zm ?_;refine qt ?_;refine Zm ?_;refine aJ.start ?_;refine cF (fun hcx=>ah.move rfl rfl) ?_;refine Zn (fun hcx=>ah.leq rfl rfl rfl) ?_;refine gD ?_;refine Za ?_;refine eh 0 2 (Zt (Cd.ret ?_));refine bQ ?_;exact⟨rfl,bel⟩
def lg (e:Ev):Bool:=(!(decide (e.kind≠2)&&decide (e.kind≠3))||eR e.id)&&(!(decide (e.kind≠2)&&decide (e.kind≠7))||eR e.a)&&(!(decide (e.kind=1)||decide (e.kind=5))||(eR e.b&&decide (e.a≠e.b)))
set_option maxHeartbeats 1000000 in
theorem xj (e:Ev)(he:e.qu)(w:World):Calls Tryz.prog 35 #[e.v] w fun en w'=>en= .returned (.bool (lg e))∧Grow w w':=by
 have bel:=Below.refl w.heap.size w;have ha:=he.a;have hb:=he.b;have h1:=fun W=>jH e.id W he.id he.Au;have h2:=fun W=>jH e.a W he.a he.la;have h3:=fun W=>jH e.b W he.b he.lb;unfold Ev.v lg;refine Zs 62 Tryz.func35 ?_;refine aw ?_;refine Seq.box rfl rfl rfl rfl rfl ?_;intro g1 w1 n1;have e1:=Nat.le_trans bel.size n1.ge;replace bel:=bel.step n1.below;have k1:=n1.aE;refine Za ?_;refine bV 0 1 2 (aN ?_);refine Zf 0 Tryz.underlying29 ?_;refine ZL Tryz.underlying3 k1 ?_;refine po ?_;refine Zm ?_;refine aJ.start ?_;refine cF (fun hcx=>ah.aA 0 rfl rfl Tryz.underlying29 rfl (by kernel_rfl)) ?_;refine Zn (fun hcx=>ah.aB rfl rfl Tryz.underlying3 rfl k1 rfl) ?_;refine Zn (fun hcx=>ah.cz rfl rfl rfl) ?_;refine gD ?_;refine Za ?_;refine bI 0 1 2 3 (aN ?_);refine Zf 0 Tryz.underlying29 ?_;refine ZL Tryz.underlying3 k1 ?_;refine po ?_;refine Zm ?_;refine aJ.start ?_;refine cF (fun hcx=>ah.aA 0 rfl rfl Tryz.underlying29 rfl (by kernel_rfl)) ?_;refine Zn (fun hcx=>ah.aB rfl rfl Tryz.underlying3 rfl k1 rfl) ?_;refine Zn (fun hcx=>ah.cz rfl rfl rfl) ?_;refine gD ?_;refine Za ?_;refine br 0 1 2 3 4 (aN ?_);refine Zf 0 Tryz.underlying29 ?_;refine ZL Tryz.underlying3 k1 ?_;refine bF ?_;refine Zm ?_;refine aJ.start ?_;refine cF (fun hcx=>ah.aA 0 rfl rfl Tryz.underlying29 rfl (by kernel_rfl)) ?_;refine Zn (fun hcx=>ah.aB rfl rfl Tryz.underlying3 rfl k1 rfl) ?_;refine Zn (fun hcx=>ah.gU rfl rfl rfl) ?_;refine gS ?_;refine Za ?_;refine cg 0 1 2 3 4 5 (aN ?_);refine Zm ?_;refine mn ?_;refine Zm ?_;refine aJ.start ?_;refine cF (fun hcx=>ah.aA 1 rfl rfl Tryz.underlying29 rfl (by kernel_rfl)) ?_;refine Zn (fun hcx=>ah.aB rfl rfl Tryz.underlying9 rfl k1 rfl) ?_;refine aJ.da rfl rfl rfl rfl rfl rfl rfl (fun hcx=>Ze Tryz.func62) (fun hcx=>h1 _) ?_;intro w2 hw2;replace bel:=bel.step hw2;replace k1:=k1.step hw2;refine gS ?_;refine Zm ?_;refine aJ.start ?_;refine cF (fun hcx=>ah.move rfl rfl) ?_;refine Zn (fun hcx=>ah.not rfl rfl) ?_;refine kY ?_;refine cF (fun hcx=>ah.aA 2 rfl rfl Tryz.underlying29 rfl (by kernel_rfl)) ?_;refine Zn (fun hcx=>ah.aB rfl rfl Tryz.underlying9 rfl k1 rfl) ?_;refine aJ.da rfl rfl rfl rfl rfl rfl rfl (fun hcx=>Ze Tryz.func62) (fun hcx=>h2 _) ?_;intro w3 hw3;replace bel:=bel.step hw3;replace k1:=k1.step hw3;refine aJ.Ak rfl rfl rfl rfl rfl rfl rfl rfl rfl rfl rfl ?_;refine gD ?_;refine Zm ?_;refine aJ.start ?_;refine cF (fun hcx=>ah.move rfl rfl) ?_;refine Zn (fun hcx=>ah.not rfl rfl) ?_;refine kY ?_;refine cF (fun hcx=>ah.aA 3 rfl rfl Tryz.underlying29 rfl (by kernel_rfl)) ?_;refine Zn (fun hcx=>ah.aB rfl rfl Tryz.underlying9 rfl k1 rfl) ?_;refine aJ.da rfl rfl rfl rfl rfl rfl rfl (fun hcx=>Ze Tryz.func62) (fun hcx=>h3 _) ?_;intro w4 hw4;replace bel:=bel.step hw4;replace k1:=k1.step hw4;refine kY ?_;refine cF (fun hcx=>ah.aA 2 rfl rfl Tryz.underlying29 rfl (by kernel_rfl)) ?_;refine Zn (fun hcx=>ah.aB rfl rfl Tryz.underlying9 rfl k1 rfl) ?_;refine Zn (fun hcx=>ah.aA 3 rfl rfl Tryz.underlying29 rfl (by kernel_rfl)) ?_;refine Zn (fun hcx=>ah.aB rfl rfl Tryz.underlying9 rfl k1 rfl) ?_;refine Zn (fun hcx=>ah.mh (a:=e.a) (b:=e.b) rfl rfl rfl ha hb) ?_;refine aJ.sh rfl rfl rfl rfl rfl rfl rfl rfl rfl rfl rfl ?_;refine aJ.Ak rfl rfl rfl rfl rfl rfl rfl rfl rfl rfl rfl ?_;refine gD ?_;refine Za ?_;refine cg 0 1 2 3 4 5 (Zt (Cd.ret ?_));refine bQ ?_;exact⟨bW (aV (by simp)),bel⟩
def fU (s:List Nat):Bool:=decide ((cU s).2.2=0)&&decide (dw (cU s).1=s)
theorem pB {l:List Nat}(h:(cU l).2.2=0):dU (cU l).1=true∧l.length≤4000:=by
 rcases vm l with ⟨t,h1,h2,h3⟩|⟨h1,-⟩|⟨h1,-⟩|⟨p,h1,-⟩
 ·rw[h1];exact⟨h2,h3⟩
 ·rw[h1] at h;cases h
 ·rw[h1] at h;cases h
 ·rw[h1] at h;cases h
theorem uh {l:List Nat}(h:(cU l).2.2≠0):(cU l).1=gH:=by
 unfold cU at h⊢;split
 ·rfl
 ·rename_i h0
  rw[if_neg h0] at h
  cases hq:iT (bl l).1 with
  |ok x q=>
   rw[hq] at h;dsimp only at h⊢;split
   ·rename_i hx
    rw[if_pos hx] at h;exact absurd rfl h
   ·rfl
  |bad p o=>rfl
  |out=>rfl
theorem pK (w:World):(Instr.build 71 #[]).run Tryz.prog w= .ok (.agg #[.int .i64 0, .string (strOf []), .slice none 0 0, .slice none 0 0]) w:=by kernel_rfl
theorem sc (s:List Nat)(w:World)(hs:∀x∈s,x<256)(hlen:s.length≤9223372036854775807):
  Calls Tryz.prog 36 #[.string (strOf s)] w fun en w'=>Below w.heap.size w w'∧∃(v:Value) (S:Nat→Prop),en= .returned (.tuple #[v, .bool (fU s)])∧dW w' S (cU s).1 v∧∀b,S b→w.heap.size≤b∧b<w'.heap.size:=by
 have bel:=Below.refl w.heap.size w;have hps:=fun W=>ur s W hs hlen;have hok:= @pB s;have hno:= @uh s;unfold fU;obtain⟨t,q,z,hP⟩:∃t q z,cU s=(t,q,z):=⟨_,_,_,rfl⟩;rw[hP] at hok hno⊢;simp only[hP] at hps;dsimp only at hok hno⊢;refine Zs 30 Tryz.func36 ?_;refine aw ?_;refine Zl bC ?_;intro g2 w1 n2;have e2:=Nat.le_trans bel.size n2.ge;replace bel:=bel.step n2.below;have k2:=n2.aE;refine Za ?_;refine bV 0 2 3 (aN ?_);refine Zm ?_;have q1:=bel.size;have q2:=k2.lt;refine Zc (Ze Tryz.func81) (hps _) ?_;rintro en w5 ⟨hb5,v,S,rfl,hrep,hS⟩;obtain⟨A1,c1,A2,c2,hvX⟩:=hrep.form;subst hvX;refine⟨_,rfl,?_⟩;replace bel:=bel.step hb5;replace k2:=k2.step hb5;have rs:zl _ w5.heap.size S t (.agg #[.int .i64 t.op, .string (strOf t.name), .slice A1 t.exprs.length c1, .slice A2 t.aS.length c2]) w5:=⟨hrep,hS,Nat.le_refl _⟩;refine Zm ?_;refine Zx ?_;refine Zx ?_;refine Zx ?_;refine Zl bC ?_;intro g4 w2 n4;have q4:=n4.ge;have e4:=Nat.le_trans bel.size n4.ge;have l4:=Nat.lt_of_lt_of_le k2.lt n4.ge;replace bel:=bel.step n4.below;replace k2:=k2.step n4.below;replace rs:=rs.step n4.below;have k4:=n4.aE;refine Zo 4 k4 ?_;intro w3 pw3;replace bel:=bel.put k4 pw3 e4;replace k2:=k2.put pw3 (by omega);replace rs:=rs.put k4 pw3 e4;replace k4:=pw3.aE;refine Za ?_;refine Za ?_;refine br 0 2 3 4 6 (bo (aw ?_));have k4:aQ _ g4 71 #[.int .i64 t.op, .string (strOf t.name), .slice A1 t.exprs.length c1, .slice A2 t.aS.length c2]:=k4;refine Zm ?_;refine po ?_;refine cg 0 2 3 4 6 15 (Zt ?_);refine Cd.aF rfl (fun hz=> ?_) (fun hz=> ?_)
 ·skip
  refine aw ?_;refine Zv (ah.build rfl rfl (pK _)) ?_;refine Zo 4 k2 ?_;intro w4 pw4;replace bel:=bel.put k2 pw4 e2;replace rs:=rs.put k2 pw4 e2;replace k4:=k4.put pw4 (by omega);replace k2:=pw4.aE;refine Za ?_;refine cg 0 2 3 4 6 15 (Zt (Cd.ret (ai.ar ?_)));refine ai.iI rfl rfl rfl k2 Tryz.underlying71 rfl (m:=4) (by kernel_rfl) rfl (.inl rfl) ?_;obtain rfl:=hno hz;exact⟨bel,_,fun _=>False,yQ rfl (aV (by rw[decide_eq_false hz];rfl)),dW.zero _ _,fun b hb=>hb.elim⟩
 have hz:z=0:=Decidable.not_not.1 hz;obtain⟨hrt,h4⟩:=hok hz;obtain⟨hn2,hd2,hbt⟩:=ju hrt;have hpt:=fun W (hr:fZ W W.heap.size t (.agg #[.int .i64 t.op, .string (strOf t.name), .slice A1 t.exprs.length c1, .slice A2 t.aS.length c2]))=>oz t _ W (by omega) hr;have hbd:=(kE t.nodes t (Nat.le_refl _) hbt).2;have e1:lK t=dw t:=by unfold lK;rw[if_pos hrt]
 rw[hrt,e1] at hpt
 have hor:(iB true (dw t)=([],4)∧dw t≠s)∨iB true (dw t)=(dw t,0):=by
  unfold iB;rw[if_neg (by decide)];split
  ·rename_i hl4
   exact .inl ⟨rfl,fun h=>by rw[h] at hl4;omega⟩
  ·exact .inr rfl
 obtain⟨⟨s1,n1⟩,hs1⟩:∃z,iB true (dw t)=z:=⟨_,rfl⟩;rw[hs1] at hor hpt
 have hs256:∀x∈s1,x<256:=by
  rcases hor with ⟨h,-⟩|h
  ·injection h with h _;rw[h];simp
  ·injection h with h _;rw[h];exact hbd
 have hfin:(decide (n1=0)&&decide (s1=s))=(decide (z=0)&&decide (dw t=s)):=by
  rcases hor with ⟨h,h2⟩|h
  ·injection h with h h3
   rw[h3,decide_eq_false h2];simp
  ·injection h with h h3
   rw[h,h3,decide_eq_true hz];rfl
 refine Cd.skip (aN ?_);refine ZW 4 Tryz.underlying71 k4 ?_;refine Zc (Ze Tryz.func82) (hpt _ (rs.rep.mono (fun b hb=>Nat.lt_of_lt_of_le (rs.bd b hb).2 rs.hO) (fun _ _=>rfl))) ?_;rintro en w6 ⟨rfl,hb6⟩;refine⟨_,rfl,?_⟩;replace bel:=bel.step hb6;replace k2:=k2.step hb6;replace rs:=rs.step hb6;replace k4:=k4.step hb6;refine Zm ?_;refine Zx ?_;refine Zx ?_;refine Za ?_;refine Za ?_;refine bU 0 2 3 4 6 7 15 (aN ?_);refine ZW 4 Tryz.underlying71 k4 ?_;refine Zm ?_;refine bF ?_;refine Zm ?_;refine aJ.start ?_;refine cF (fun hcx=>ah.move rfl rfl) ?_;refine kY ?_;refine Zn (fun hcx=>ah.dM (a:=s1) (b:=s) rfl rfl rfl hs256 hs) ?_;refine gD ?_;refine Zo 4 k2 ?_;intro w4 pw4;replace bel:=bel.put k2 pw4 e2;replace rs:=rs.put k2 pw4 e2;replace k4:=k4.put pw4 (by omega);replace k2:=pw4.aE;refine Za ?_;refine bU 0 2 3 4 6 7 15 (Zt (Cd.ret ?_));refine ai.iI rfl rfl rfl k2 Tryz.underlying71 rfl (m:=4) (by kernel_rfl) rfl (.inl rfl) ?_;rw[←hfin];exact⟨bel,_,S,rfl,rs.rep,fun b hb=>⟨by have:=(rs.bd b hb).1;omega,Nat.lt_of_lt_of_le (rs.bd b hb).2 rs.hO⟩⟩
def j4 (k:Int):Ev:=⟨k,[],[],[],[],0,0,0,0⟩
theorem kD (a:Int)(w:World):(Instr.build 29 #[(0, .int .i64 a)]).run Tryz.prog w= .ok (j4 a).v w:=by kernel_rfl
theorem tb {e:Ev}(h:e.qu):(gG e).qu:=by
 have hn:∀x∈([]:List Nat),x<256:=fun x h=>by cases h
 have h0:bM 0:=by unfold bM;omega
 have hl:([]:List Nat).length≤9223372036854775807:=Nat.zero_le _;obtain⟨a1,a2,a3,a4,a5,a6,a7,a8,a9,b1,b2,b3,b4⟩:=h;unfold gG
 repeat' split
 all_goals constructor<;>first|assumption
theorem ui {k:Int}(h:bM k):(j4 k).qu:=by
 have h0:bM 0:=by unfold bM;omega
 have hn:∀x∈([]:List Nat),x<256:=fun x h=>by cases h
 exact⟨h,hn,hn,hn,hn,h0,h0,h0,h0,Nat.zero_le _,Nat.zero_le _,Nat.zero_le _,Nat.zero_le _⟩
def bX (e:Ev):Bool:=(decide (1≤e.kind)&&decide (e.kind≤7))&&decide (gG e=j4 e.kind)&&lg e&&(decide (e.kind≠1)||fU e.text)&&(decide (0≤e.day)&&decide (e.day≤2932896))&&(decide (0≤e.at_)&&decide (e.at_<200)&&(decide (e.df=0)||decide (e.df=1)))
set_option maxHeartbeats 1000000 in
theorem kC (e:Ev)(he:e.qu)(w:World):Calls Tryz.prog 13 #[e.v] w fun en w'=>en= .returned (.bool (bX e))∧Grow w w':=by
 have bel:=Below.refl w.heap.size w;have hneq:=fun W=>tf (gG e) (j4 e.kind) W;rw[yO (tb he) (ui he.kind)] at hneq;have hbl:=fun W=>wu e W;have hnm:=fun W=>xj e he W;have hpr:=fun W=>sc e.text W he.text he.qZ;have hday:=fun W=>zA e.day W;unfold Ev.v at hbl hnm⊢;have hF:∀ {b:Bool},b=false→∀c d,(b&&c&&d)=false:=fun h c d=>by rw[h];rfl
 refine Zs 60 Tryz.func13 ?_;refine aw ?_;refine Seq.box rfl rfl rfl rfl rfl ?_;intro g1 w1 n1;have e1:=Nat.le_trans bel.size n1.ge;replace bel:=bel.step n1.below;have k1:=n1.aE;refine Za ?_;refine bV 0 1 2 (bo (Cd.seq ?_))
 by_cases c1:e.kind<1
 ·skip
  refine iC 21 ?_;intro w2 hw2 zw2;replace bel:=bel.step hw2;replace k1:=k1.step hw2;have zbel:=bel.size;have zlt:=k1.lt;refine iZ 0 Tryz.underlying29 ?_;refine gg Tryz.underlying3 k1 ?_;refine Zd (fun w hG=>(ah.lss rfl rfl rfl).lN (by omega)) ?_;refine gF ?_;refine mA ?_;refine mA ?_;refine mA ?_;refine Zd (fun w hG=>ah.cZ rfl rfl rfl) ?_;refine gF ?_;refine mA ?_;refine mA ?_;refine mA ?_;refine mA ?_;refine mA ?_;refine mA ?_;refine Zd (fun w hG=>ah.cZ rfl rfl rfl) ?_;refine gF ?_;refine mA ?_;refine mA ?_;refine mA ?_;refine Zd (fun w hG=>ah.cZ rfl rfl rfl) ?_;refine Dr.nil ?_;refine cD.done (F':=[(0,_),(1,_),(2,_),(25,_)]) rfl ⟨rfl,rfl,rfl,rfl,trivial⟩ ?_;intro w3 hw3 fw3;replace bel:=bel.step hw3;replace k1:=k1.step hw3;refine bI 0 1 2 25 (Zt ?_);refine Cd.bb rfl rfl ?_;refine aw ?_;refine Za ?_;refine bI 0 1 2 25 (Zt (Cd.ret (ai.ar ?_)));refine bQ ?_;exact⟨bW (aV (by unfold bX;rw[decide_eq_false (by omega)];rfl)),bel⟩
 by_cases c2:7<e.kind
 ·skip
  refine iC 21 ?_;intro w2 hw2 zw2;replace bel:=bel.step hw2;replace k1:=k1.step hw2;have zbel:=bel.size;have zlt:=k1.lt;refine iZ 0 Tryz.underlying29 ?_;refine gg Tryz.underlying3 k1 ?_;refine Zd (fun w hG=>(ah.lss rfl rfl rfl).j1 (by omega)) ?_;refine gF ?_;refine oc (fun w hG=>ah.aA 0 rfl rfl Tryz.underlying29 rfl (by kernel_rfl)) ?_;refine oc (fun w hG=>ah.aB rfl rfl Tryz.underlying3 rfl (k1.step hG) rfl) ?_;refine oc (fun w hG=>(ah.gtr rfl rfl rfl).lN (by omega)) ?_;refine Zd (fun w hG=>ah.bR rfl rfl rfl) ?_;refine gF ?_;refine mA ?_;refine mA ?_;refine mA ?_;refine mA ?_;refine mA ?_;refine mA ?_;refine Zd (fun w hG=>ah.cZ rfl rfl rfl) ?_;refine gF ?_;refine mA ?_;refine mA ?_;refine mA ?_;refine Zd (fun w hG=>ah.cZ rfl rfl rfl) ?_;refine Dr.nil ?_;refine cD.done (F':=[(0,_),(1,_),(2,_),(25,_)]) rfl ⟨rfl,rfl,rfl,rfl,trivial⟩ ?_;intro w3 hw3 fw3;replace bel:=bel.step hw3;replace k1:=k1.step hw3;refine bI 0 1 2 25 (Zt ?_);refine Cd.bb rfl rfl ?_;refine aw ?_;refine Za ?_;refine bI 0 1 2 25 (Zt (Cd.ret (ai.ar ?_)));refine bQ ?_;exact⟨bW (aV (by unfold bX;rw[decide_eq_false (show¬e.kind≤7 by omega),Bool.and_false];rfl)),bel⟩
 have hk:decide (1≤e.kind)=true∧decide (e.kind≤7)=true:=⟨decide_eq_true (by omega),decide_eq_true (by omega)⟩
 by_cases c3:gG e=j4 e.kind
 ·have hne:(!decide (gG e=j4 e.kind))=false:=by rw[decide_eq_true c3];rfl
  rw[hne] at hneq;refine iC 21 ?_;intro w2 hw2 zw2;replace bel:=bel.step hw2;replace k1:=k1.step hw2;have zbel:=bel.size;have zlt:=k1.lt;refine iZ 0 Tryz.underlying29 ?_;refine gg Tryz.underlying3 k1 ?_;refine Zd (fun w hG=>(ah.lss rfl rfl rfl).j1 (by omega)) ?_;refine gF ?_;refine oc (fun w hG=>ah.aA 0 rfl rfl Tryz.underlying29 rfl (by kernel_rfl)) ?_;refine oc (fun w hG=>ah.aB rfl rfl Tryz.underlying3 rfl (k1.step hG) rfl) ?_;refine oc (fun w hG=>(ah.gtr rfl rfl rfl).j1 (by omega)) ?_;refine Zd (fun w hG=>ah.bR rfl rfl rfl) ?_;refine gF ?_;refine oc (fun w hG=>ah.fp rfl rfl Tryz.underlying29 rfl (k1.step hG) (m:=9) (by kernel_rfl) rfl) ?_;refine Dr.sN rfl (fun w=>Ze Tryz.func34) rfl rfl rfl (fun w hG=>hbl w) ?_;refine oc (fun w hG=>ah.aA 0 rfl rfl Tryz.underlying29 rfl (by kernel_rfl)) ?_;refine oc (fun w hG=>ah.aB rfl rfl Tryz.underlying3 rfl (k1.step hG) rfl) ?_;refine oc (fun w hG=>ah.build rfl rfl (kD _ w)) ?_;refine oc (fun w hG=>ah.bin rfl rfl rfl (mH _ _ _ _ _ w) (hneq w)) ?_;refine Zd (fun w hG=>ah.bR rfl rfl rfl) ?_;refine gF ?_;refine oc (fun w hG=>ah.fp rfl rfl Tryz.underlying29 rfl (k1.step hG) (m:=9) (by kernel_rfl) rfl) ?_;refine Dr.sN rfl (fun w=>Ze Tryz.func35) rfl rfl rfl (fun w hG=>hnm w) ?_;refine oc (fun w hG=>ah.not rfl rfl) ?_;refine Zd (fun w hG=>ah.bR rfl rfl rfl) ?_;refine Dr.nil ?_;refine cD.done (F':=[(0,_),(1,_),(2,_),(25,_)]) rfl ⟨rfl,rfl,rfl,rfl,trivial⟩ ?_;intro w3 hw3 fw3;replace bel:=bel.step hw3;replace k1:=k1.step hw3;refine bI 0 1 2 25 (Zt ?_);refine Cd.cond rfl (fun h4=> ?_) (fun h4=> ?_)
  ·skip
   refine aw ?_;refine Za ?_;refine bI 0 1 2 25 (Zt (Cd.ret (ai.ar ?_)));refine bQ ?_;have h4:lg e=false:=by simpa using h4
   exact⟨bW (aV (by unfold bX;rw[h4];simp)),bel⟩
  have h4:lg e=true:=by simpa using h4
  refine Cd.skip (bo (aw ?_));refine Zf 0 Tryz.underlying29 ?_;refine ZL Tryz.underlying3 k1 ?_;refine bF ?_;refine br 0 1 2 25 28 (Zt ?_);refine Cd.aF rfl (fun h5=> ?_) (fun h5=> ?_)
  ·skip
   refine aw ?_;refine Zf 4 Tryz.underlying29 ?_;refine ZL Tryz.underlying9 k1 ?_;refine Zc (Ze Tryz.func36) (hpr _) ?_;rintro en w8 ⟨hb8,v,S,rfl,hrep,hS⟩;obtain⟨A1,d1,A2,d2,hvX⟩:=hrep.form;subst hvX;refine⟨_,rfl,?_⟩;replace bel:=bel.step hb8;replace k1:=k1.step hb8;refine Zm ?_;refine Zx ?_;refine Zx ?_;refine Zl bC ?_;intro g3 w4 n3;have e3:=Nat.le_trans bel.size n3.ge;have l3:=Nat.lt_of_lt_of_le k1.lt n3.ge;replace bel:=bel.step n3.below;replace k1:=k1.step n3.below;have k3:=n3.aE;refine Zo 4 k3 ?_;intro w5 pw5;replace bel:=bel.put k3 pw5 e3;replace k1:=k1.put pw5 (by omega);replace k3:=pw5.aE;refine Za ?_;refine cg 0 1 2 4 25 28 (aN ?_);refine Zm ?_;refine mn ?_;refine bU 0 1 2 4 25 28 36 (Zt ?_);refine Cd.cond rfl (fun h6=> ?_) (fun h6=> ?_)
   ·skip
    refine aw ?_;refine Za ?_;refine bU 0 1 2 4 25 28 36 (Zt (Cd.ret (ai.ar ?_)));refine bQ ?_;have h6:fU e.text=false:=by simpa using h6
    exact⟨bW (aV (by unfold bX;rw[h6,decide_eq_false (show¬e.kind≠1 from fun h=>h h5)];simp)),bel⟩
   have h6:fU e.text=true:=by simpa using h6
   refine Cd.skip (aN ?_);refine Zf 5 Tryz.underlying29 ?_;refine ZL Tryz.underlying3 k1 ?_;refine Zc (Ze Tryz.func37) (hday _) ?_;rintro en w9 ⟨rfl,hb9⟩;refine⟨_,rfl,?_⟩;replace bel:=bel.step hb9;replace k1:=k1.step hb9;replace k3:=k3.step hb9;refine Zm ?_;refine aJ.start ?_;refine cF (fun hcx=>ah.aA 6 rfl rfl Tryz.underlying29 rfl (by kernel_rfl)) ?_;refine Zn (fun hcx=>ah.aB rfl rfl Tryz.underlying3 rfl k1 rfl) ?_;refine Zn (fun hcx=>ah.geq rfl rfl rfl) ?_;refine gD ?_;refine Zm ?_;refine aJ.start ?_;refine cF (fun hcx=>ah.aA 6 rfl rfl Tryz.underlying29 rfl (by kernel_rfl)) ?_;refine Zn (fun hcx=>ah.aB rfl rfl Tryz.underlying3 rfl k1 rfl) ?_;refine Zn (fun hcx=>ah.lss rfl rfl rfl) ?_;refine gD ?_;refine Zm ?_;refine aJ.start ?_;refine cF (fun hcx=>ah.aA 7 rfl rfl Tryz.underlying29 rfl (by kernel_rfl)) ?_;refine Zn (fun hcx=>ah.aB rfl rfl Tryz.underlying3 rfl k1 rfl) ?_;refine Zn (fun hcx=>ah.gU rfl rfl rfl) ?_;refine kY ?_;refine cF (fun hcx=>ah.aA 7 rfl rfl Tryz.underlying29 rfl (by kernel_rfl)) ?_;refine Zn (fun hcx=>ah.aB rfl rfl Tryz.underlying3 rfl k1 rfl) ?_;refine Zn (fun hcx=>ah.gU rfl rfl rfl) ?_;refine aJ.Ak rfl rfl rfl rfl rfl rfl rfl rfl rfl rfl rfl ?_;refine gD ?_;refine Za ?_;refine bU 0 1 2 4 25 28 36 (Zt (Cd.ret ?_));refine bQ ?_;refine⟨bW (aV ?_),bel⟩;unfold bX;rw[hk.1,hk.2,decide_eq_true c3,h4,h6,Bool.or_true];simp[Bool.and_assoc]
  ·skip
   refine Cd.skip (aN ?_);refine Zf 5 Tryz.underlying29 ?_;refine ZL Tryz.underlying3 k1 ?_;refine Zc (Ze Tryz.func37) (hday _) ?_;rintro en w9 ⟨rfl,hb9⟩;refine⟨_,rfl,?_⟩;replace bel:=bel.step hb9;replace k1:=k1.step hb9;refine Zm ?_;refine aJ.start ?_;refine cF (fun hcx=>ah.aA 6 rfl rfl Tryz.underlying29 rfl (by kernel_rfl)) ?_;refine Zn (fun hcx=>ah.aB rfl rfl Tryz.underlying3 rfl k1 rfl) ?_;refine Zn (fun hcx=>ah.geq rfl rfl rfl) ?_;refine gD ?_;refine Zm ?_;refine aJ.start ?_;refine cF (fun hcx=>ah.aA 6 rfl rfl Tryz.underlying29 rfl (by kernel_rfl)) ?_;refine Zn (fun hcx=>ah.aB rfl rfl Tryz.underlying3 rfl k1 rfl) ?_;refine Zn (fun hcx=>ah.lss rfl rfl rfl) ?_;refine gD ?_;refine Zm ?_;refine aJ.start ?_;refine cF (fun hcx=>ah.aA 7 rfl rfl Tryz.underlying29 rfl (by kernel_rfl)) ?_;refine Zn (fun hcx=>ah.aB rfl rfl Tryz.underlying3 rfl k1 rfl) ?_;refine Zn (fun hcx=>ah.gU rfl rfl rfl) ?_;refine kY ?_;refine cF (fun hcx=>ah.aA 7 rfl rfl Tryz.underlying29 rfl (by kernel_rfl)) ?_;refine Zn (fun hcx=>ah.aB rfl rfl Tryz.underlying3 rfl k1 rfl) ?_;refine Zn (fun hcx=>ah.gU rfl rfl rfl) ?_;refine aJ.Ak rfl rfl rfl rfl rfl rfl rfl rfl rfl rfl rfl ?_;refine gD ?_;refine Za ?_;refine br 0 1 2 25 28 (Zt (Cd.ret ?_));refine bQ ?_;refine⟨bW (aV ?_),bel⟩;unfold bX;rw[hk.1,hk.2,decide_eq_true c3,h4,decide_eq_true h5,Bool.true_or];simp[Bool.and_assoc]
 ·have hne:(!decide (gG e=j4 e.kind))=true:=by rw[decide_eq_false c3];rfl
  rw[hne] at hneq;refine iC 21 ?_;intro w2 hw2 zw2;replace bel:=bel.step hw2;replace k1:=k1.step hw2;have zbel:=bel.size;have zlt:=k1.lt;refine iZ 0 Tryz.underlying29 ?_;refine gg Tryz.underlying3 k1 ?_;refine Zd (fun w hG=>(ah.lss rfl rfl rfl).j1 (by omega)) ?_;refine gF ?_;refine oc (fun w hG=>ah.aA 0 rfl rfl Tryz.underlying29 rfl (by kernel_rfl)) ?_;refine oc (fun w hG=>ah.aB rfl rfl Tryz.underlying3 rfl (k1.step hG) rfl) ?_;refine oc (fun w hG=>(ah.gtr rfl rfl rfl).j1 (by omega)) ?_;refine Zd (fun w hG=>ah.bR rfl rfl rfl) ?_;refine gF ?_;refine oc (fun w hG=>ah.fp rfl rfl Tryz.underlying29 rfl (k1.step hG) (m:=9) (by kernel_rfl) rfl) ?_;refine Dr.sN rfl (fun w=>Ze Tryz.func34) rfl rfl rfl (fun w hG=>hbl w) ?_;refine oc (fun w hG=>ah.aA 0 rfl rfl Tryz.underlying29 rfl (by kernel_rfl)) ?_;refine oc (fun w hG=>ah.aB rfl rfl Tryz.underlying3 rfl (k1.step hG) rfl) ?_;refine oc (fun w hG=>ah.build rfl rfl (kD _ w)) ?_;refine oc (fun w hG=>ah.bin rfl rfl rfl (mH _ _ _ _ _ w) (hneq w)) ?_;refine Zd (fun w hG=>ah.bR rfl rfl rfl) ?_;refine gF ?_;refine mA ?_;refine mA ?_;refine mA ?_;refine Zd (fun w hG=>ah.cZ rfl rfl rfl) ?_;refine Dr.nil ?_;refine cD.done (F':=[(0,_),(1,_),(2,_),(25,_)]) rfl ⟨rfl,rfl,rfl,rfl,trivial⟩ ?_;intro w3 hw3 fw3;replace bel:=bel.step hw3;replace k1:=k1.step hw3;refine bI 0 1 2 25 (Zt ?_);refine Cd.bb rfl rfl ?_;refine aw ?_;refine Za ?_;refine bI 0 1 2 25 (Zt (Cd.ret (ai.ar ?_)));refine bQ ?_;exact⟨bW (aV (by unfold bX;rw[decide_eq_false c3];simp)),bel⟩
section
variable {P:Program} {E:Operand→Option Value} {o:Oper} {w:World} {x y:Operand} {T:TypeId}
end
section
variable {P:Program} {E:Operand→Option Value} {o:Oper} {w:World} {x:Operand} {T:TypeId}
end
structure Wf (B:Nat)(w w':World):Prop where
 below:Below (min B w.heap.size) w w'
 dD:∀k t cs,aQ w k t cs→t≠76→t≠5→aQ w' k t cs
section
variable {B:Nat} {w w' w'':World}
theorem Wf.refl (B:Nat)(w:World):Wf B w w:=⟨Below.refl _ _,fun _ _ _ h _ _=>h⟩
theorem Wf.trans (h:Wf B w w')(k:Wf B w' w''):Wf B w w'':=⟨h.below.trans (k.below.mono (by have:=h.below.size;omega)),fun i t cs hb h1 h2=>k.dD i t cs (h.dD i t cs hb h1 h2) h1 h2⟩
theorem Wf.grow (h:Below w.heap.size w w'):Wf B w w':=⟨h.mono (Nat.min_le_right _ _),fun _ _ _ hb _ _=>hb.step h⟩
theorem Wf.step (h:Wf B w w')(k:Below w'.heap.size w' w''):Wf B w w'':=h.trans (Wf.grow k)
theorem Wf.wf (h:Wf B w w')(k:Wf B w' w''):Wf B w w'':=h.trans k
theorem Wf.to (h:Wf B w w')(hB:B≤w.heap.size):Below B w w':=by have:=h.below;rwa [Nat.min_eq_left hB] at this
theorem Wf.xQ {g B':Nat}{T:TypeId}{cur cs:Array Value}(h:Wf B w w')(k:aQ w' g T cur)(p:kW w' w'' g T cs)(e:B'≤g)(hB:B≤g)(hT:T=76∨T=5):Wf B w w'':=
 h.trans ⟨(p.below hB k.lt).mono (Nat.min_le_left _ _),fun i t cs hb h1 h2=>hb.put p (hb.ne k (by rcases hT with rfl|rfl<;>assumption))⟩
end
theorem aQ.wf {B:Nat}{w w':World}{k:Nat}{t:TypeId}{cs:Array Value}(h:aQ w k t cs)(f:Wf B w w')(h1:t≠76:=by decide)(h2:t≠5:=by decide):aQ w' k t cs:=f.dD k t cs h h1 h2
structure Wr (w:World)(B g:Nat)(bs:List Nat):Prop where
 ge:B≤g
 bytes:∀d∈bs,d<256
 cell:∃v,aQ w g 76 #[v]∧Own w B 5 1 v bs.length (Bt bs)
theorem Wr.size {w:World}{B g:Nat}{bs:List Nat}(h:Wr w B g bs):B≤w.heap.size:=by
 obtain⟨v,hb,-⟩:=h.cell;have:=hb.lt;have:=h.ge;omega
theorem Wr.step {w w':World}{B g:Nat}{bs:List Nat}(h:Wr w B g bs)(k:Below w.heap.size w w'):Wr w' B g bs:=by
 obtain⟨v,hb,ho⟩:=h.cell;exact⟨h.ge,h.bytes,v,hb.step k,ho.step k⟩
theorem App.wf {w w':World}{B n:Nat}{v:Value}{xs:List Value}(h:App w w' B v)(o:Own w B 5 1 v n xs):Wf B w w':=
 ⟨h.below.mono (Nat.min_le_left _ _),fun i t cs hb _ h2=>hb.grown h.grown (fun e=>eE o.row hb (fun e=>h2 e.symm) e.symm)⟩
theorem pS (B g B2 m c:Nat)(A:Option Addr)(bs new:List Nat)(w:World)(h:Wr w B g bs)(hr:Reads w B2 1 A m (Bt new))(hn:∀d∈new,d<256)(hl:bs.length+new.length≤1000000000):
  Calls Tryz.prog 125 #[.pointer (some ⟨g,0,none⟩), .slice A m c] w fun e w'=>e= .returned (.pointer (some ⟨g,0,none⟩))∧Wf B w w'∧Wr w' B g (bs++new):=by
 obtain⟨v,k0,own⟩:=h.cell;have hB:=h.size;have hge:=h.ge;have hm:new.length=m:=by have:=hr.1;rw[jI] at this;omega
 refine Zs 17 Tryz.func125 ?_;refine aw ?_;refine Za ?_;refine bV 0 1 4 (bo (aw ?_));refine Zm ?_;refine Zv (ah.zo rfl rfl rfl Tryz.underlying74) ?_;refine bI 0 1 4 6 (Zt ?_);refine Cd.bb rfl rfl ?_;refine Zr ?_;refine Zm ?_;refine Zm ?_;refine Zv (ah.nilCheck rfl rfl) ?_;refine Zf 0 Tryz.underlying76 ?_;refine ZL Tryz.underlying64 k0 ?_;refine Zm ?_;refine Seq.append rfl rfl rfl Tryz.underlying64 (by kernel_rfl) bm rfl (by decide) (b:=1) (by kernel_rfl) own hr (by intro u hu;obtain⟨d,-,rfl⟩:=List.mem_map.1 hu;rfl) hB (by simp only[maxLen];omega) (by omega) rfl rfl rfl ?_;intro v1 w1 own1 ha;have k1:=k0.grown ha.grown (fun e=>eE own.row k0 (by decide) e.symm);have f1:=ha.wf own;clear k0;have k0:=k1;obtain⟨A1,c1,rfl,-⟩:=own1.reads;have e0:B≤g:=hge;have wf:Wf B w w1:=f1;refine Zv (ah.nilCheck rfl rfl) ?_;refine Zf 0 Tryz.underlying76 ?_;refine Zq k0 ?_;intro w1 pw1;replace k0:=pw1.aE;refine bI 0 1 4 6 (aN ?_);refine Zm ?_;refine Za ?_;refine bI 0 1 4 6 (Zt (Cd.ret ?_));have own2:=own1.put k1 pw1 hge;have f2:=wf.xQ k1 pw1 hge hge (.inl rfl);refine bQ ?_;refine⟨rfl,f2,hge,fun d hd=> ?_,_,k0,?_⟩
 ·rcases List.mem_append.1 hd with hd|hd
  ·exact h.bytes d hd
  ·exact hn d hd
 ·rw[gT,List.length_append,hm]
  exact own2
def iz:Nat→Nat→List Nat
 |0,n=>[n]
 |k+1,n=>if n<128 then [n] else(n%128+128)::iz k (n/128)
def gI (n:Nat):List Nat:=iz 9 n
theorem kr {k n:Nat}(h:n<128):iz k n=[n]:=by
 cases k with
 |zero=>rfl
 |succ k=>unfold iz;rw[if_pos h]
theorem lq {k n:Nat}(h:¬n<128):iz (k+1) n=(n%128+128)::iz k (n/128):=by
 show(if n<128 then [n] else(n%128+128)::iz k (n/128))=_;rw[if_neg h]
theorem qy:∀k n,(iz k n).length≤k+1
 |0,n=>by simp[iz]
 |k+1,n=>by
  unfold iz;split
  ·simp
  ·have:=qy k (n/128)
   simp;omega
theorem eu (n:Nat):(gI n).length≤10:=qy 9 n
theorem tU:∀k n,n<2*128^k→∀d∈iz k n,d<256
 |0,n,h,d,hd=>by simp[iz] at hd;subst hd;simp at h;omega
 |k+1,n,h,d,hd=>by
  unfold iz at hd;split at hd
  ·simp at hd;omega
  ·rcases List.mem_cons.1 hd with rfl|hd
   ·omega
   ·refine tU k (n/128) ?_ d hd
    rw[Nat.pow_succ] at h;rw[Nat.div_lt_iff_lt_mul (by omega)];omega
theorem vU {n:Nat}(h:n<18446744073709551616):∀d∈gI n,d<256:=tU 9 n (by omega)
set_option maxRecDepth 100000 in
theorem Am:∀x,x<256→x|||128=x%128+128:=by decide
theorem ah.Bf {P:Program}{E:Operand→Option Value}{o:Oper}{w:World}{x y:Operand}{T T':TypeId}{a b:Nat}(ho:o.op= .binOp .or T x y T')(hx:E x=some (.int .u8 (a:Int)))(hy:E y=some (.int .u8 (b:Int)))(ha:a<256)(hb:b<256):ah P E o w (.int .u8 ((a|||b:Nat):Int)) w:=by
 have e1:(BitVec.ofInt IntKind.u8.bits (a:Int)).toNat=a:=by simp[IntKind.bits];omega
 have e2:(BitVec.ofInt IntKind.u8.bits (b:Int)).toNat=b:=by simp[IntKind.bits];omega
 have hr:a|||b<256:=Nat.or_lt_two_pow (n:=8) ha hb;refine .bin ho hx hy rfl ?_;show(Op.intBits .or .u8 a b).run P w=_;simp only[Op.intBits,BitVec.toNat_or,e1,e2,nt (Int.natCast_nonneg _) (Int.ofNat_lt.2 hr)];rfl
theorem Ab (m:Nat):IntKind.u8.wrap (m:Int)=((m%256:Nat):Int):=by rw[IntKind.wrap_u8];omega
theorem mY (B g n:Nat)(bs:List Nat)(w:World)(h:Wr w B g bs)(hn:n<18446744073709551616)(hl:bs.length+10≤1000000000):
  Calls Tryz.prog 79 #[.pointer (some ⟨g,0,none⟩), .int .u64 (n:Int)] w fun e w'=>e= .returned (.pointer (some ⟨g,0,none⟩))∧Wf B w w'∧Wr w' B g (bs++gI n):=by
 have wf:=Wf.refl B w;have hn9:n<2*128^9:=by omega
 refine Zs 20 Tryz.func79 ?_;refine aw ?_;refine Za ?_;refine bV 0 1 4 (bo (Cd.block ?_))
 refine Cd.loop (σ:=List Nat × Nat × Nat) (fun s=>[(0, .pointer (some ⟨g,0,none⟩)),(1, .int .u64 (s.2.2:Int))])
  (fun s wr=>s.1.length+s.2.1=9∧s.2.2<2*128^s.2.1∧s.1++iz s.2.1 s.2.2=gI n∧Wf B w wr∧Wr wr B g (bs++s.1)) (fun s=>s.2.1) ([],9,n) ⟨rfl,hn9,List.nil_append _,wf,by rw[List.append_nil];exact h⟩ ⟨rfl,rfl,trivial⟩ ?_
 clear wf;rintro⟨done,k,m⟩ wr0 ⟨hd,hm,he,wf,wr⟩;simp only at hd hm he wr;show Cd _ _ _ _ [(0, .pointer (some ⟨g,0,none⟩)),(1, .int .u64 (m:Int))] _
 have hm64:m<18446744073709551616:=Nat.lt_of_lt_of_le hm (by
  have:(128:Nat)^k≤128^9:=Nat.pow_le_pow_right (by omega) (by omega);omega)
 refine Cd.seq (aw ?_);refine Zm ?_;refine qt ?_;refine bV 0 1 6 (Zt ?_);refine Cd.aF rfl (fun hc=> ?_) (fun hc=> ?_)
 ·obtain⟨k,rfl⟩:∃j,k=j+1:=⟨k-1,by
   rcases Nat.eq_zero_or_pos k with h0|h0
   ·subst h0;simp at hm;omega
   ·omega⟩
  refine Cd.skip (bo (Cd.block (Zr ?_)));refine Zm ?_;refine Zm ?_;refine Zv (ah.fm rfl rfl Tryz.underlying94 Tryz.underlying5 (Ab m)) ?_;refine Zv ((ah.Bf (b:=128) rfl rfl rfl (by omega) (by omega)).cast (by rw[Am (m%256) (by omega),show m%256%128=m%128 by omega])) ?_;refine Seq.slice (vs:=[_]) (s:=1) rfl rfl rfl Tryz.underlying64 (by kernel_rfl) (bm) (by omega) (by omega) ⟨rfl,trivial⟩ rfl rfl rfl ?_;intro g13 w1 n13;have e13:=Nat.le_trans wf.below.size n13.ge;replace wf:=wf.step n13.below;replace wr:=wr.step n13.below;have k13:=n13.aE;have hrd:Reads w1 w1.heap.size 1 (some ⟨g13,0,none⟩) 1 (Bt [m%128+128]):=Reads.aE (size:=1) k13 1 rfl;refine Zc (Ze Tryz.func125) (pS B g _ 1 1 _ _ [m%128+128] _ wr hrd (by simp;omega) (by simp;omega)) ?_;clear wr;rintro e w2 ⟨rfl,fw2,wr⟩;refine⟨_,rfl,?_⟩;replace wf:=wf.wf fw2;refine bV 0 1 6 (ai.av (jw ?_));refine Zm ?_;refine Zv ((ah.zU rfl rfl rfl (s:=7) rfl (by omega)).cast (v':= .int .u64 ((m/128:Nat):Int)) (by rw[show(2:Nat)^7=128 from rfl])) ?_;refine Za ?_;refine bV 0 1 6 ?_;rw[List.append_assoc] at wr;refine ai.round (done++[m%128+128],k,m/128) ⟨rfl,rfl,trivial⟩ ⟨by simp;omega,?_,?_,wf,wr⟩ (by simp)
  ·simp only
   rw[Nat.pow_succ] at hm;rw[Nat.div_lt_iff_lt_mul (by omega)];omega
  ·rw[←he,lq (by omega),List.append_assoc];rfl
 ·skip
  refine Cd.exit (ai.bj (ai.aW (ai.aY (aN ?_))));refine Zm ?_;refine Zm ?_;refine Zv (ah.fm rfl rfl Tryz.underlying94 Tryz.underlying5 (nt (by omega) (by omega))) ?_;refine Seq.slice (vs:=[_]) (s:=1) rfl rfl rfl Tryz.underlying64 (by kernel_rfl) (bm) (by omega) (by omega) ⟨rfl,trivial⟩ rfl rfl rfl ?_;intro g18 w1 n18;have e18:=Nat.le_trans wf.below.size n18.ge;replace wf:=wf.step n18.below;replace wr:=wr.step n18.below;have k18:=n18.aE;have hrd:Reads w1 w1.heap.size 1 (some ⟨g18,0,none⟩) 1 (Bt [m]):=Reads.aE (size:=1) k18 1 rfl;refine Zc (Ze Tryz.func125) (pS B g _ 1 1 _ _ [m] _ wr hrd (by simp;omega) (by simp;omega)) ?_;clear wr;rintro e w2 ⟨rfl,fw2,wr⟩;refine⟨_,rfl,?_⟩;replace wf:=wf.wf fw2;refine Za ?_;refine bI 0 1 4 6 (Zt (Cd.ret ?_));refine bQ ?_;rw[List.append_assoc,show done++[m]=gI n by rw[←he,kr (by omega)]] at wr;exact⟨rfl,wf,wr⟩
theorem ig (B g n:Nat)(bs:List Nat)(w:World)(h:Wr w B g bs)(hn:n<9223372036854775808)(hl:bs.length+10≤1000000000):
  Calls Tryz.prog 30 #[.pointer (some ⟨g,0,none⟩), .int .i64 (n:Int)] w fun e w'=>e= .returned (.pointer (some ⟨g,0,none⟩))∧Wf B w w'∧Wr w' B g (bs++gI n):=by
 have wf:=Wf.refl B w;have wr:=h;refine Zs 10 Tryz.func30 ?_;refine aw ?_;refine Za ?_;refine bV 0 1 4 (aN ?_);refine Zm ?_;refine Zm ?_;refine Zv ((ah.max2 rfl rfl rfl).cast (v':= .int .i64 (n:Int)) (int_eq (by omega))) ?_;refine Zv (ah.qJ (r:=n) rfl rfl Tryz.underlying3 Tryz.underlying94 (by omega)) ?_;refine Zc (Ze Tryz.func79) (mY B g n _ _ wr (by omega) hl) ?_;clear wr;rintro e w1 ⟨rfl,fw1,wr⟩;refine⟨_,rfl,?_⟩;replace wf:=wf.wf fw1;refine Za ?_;refine bV 0 1 4 (Zt (Cd.ret ?_));refine bQ ?_;exact⟨rfl,wf,wr⟩
def jT (n:Int):Nat:=if 0≤n then(2*n).toNat else(-2*n-1).toNat
theorem sK {n:Int}(h:bM n):jT n<18446744073709551616:=by
 unfold jT bM at *;split<;>omega
theorem xr {a:Nat}(h:a<18446744073709551616):a^^^18446744073709551615=18446744073709551615-a:=by
 have:=congrArg BitVec.toNat (BitVec.xor_allOnes (x:=BitVec.ofNat 64 a));rw[BitVec.toNat_xor,BitVec.toNat_not,BitVec.toNat_allOnes,BitVec.toNat_ofNat,Nat.mod_eq_of_lt (by omega)] at this;exact this
theorem sr (B g:Nat)(n:Int)(bs:List Nat)(w:World)(h:Wr w B g bs)(hn:bM n)(hl:bs.length+10≤1000000000):
  Calls Tryz.prog 32 #[.pointer (some ⟨g,0,none⟩), .int .i64 n] w fun e w'=>e= .returned (.pointer (some ⟨g,0,none⟩))∧Wf B w w'∧Wr w' B g (bs++gI (jT n)):=by
 have wf:=Wf.refl B w;have wr:=h;have hs:=sK hn;unfold bM at hn;obtain⟨a,ha⟩:∃a:Nat,n%18446744073709551616=(a:Int):=⟨(n%18446744073709551616).toNat,by omega⟩;obtain⟨a2,ha2⟩:∃a2:Nat,a2=a*2%18446744073709551616:=⟨_,rfl⟩;obtain⟨z,hz⟩:∃z:Int,z=if 0≤n then 0 else -1:=⟨_,rfl⟩;obtain⟨b,hb⟩:∃b:Nat,b=if 0≤n then 0 else 18446744073709551615:=⟨_,rfl⟩
 have hx:jT n=a2^^^b:=by
  unfold jT
  by_cases h0:0≤n
  ·rw[hb,if_pos h0,if_pos h0,Nat.xor_zero];omega
  ·rw[hb,if_neg h0,if_neg h0,xr (by omega)];omega
 have hfd:n.fdiv 9223372036854775808=z:=by
  rw[Int.fdiv_eq_ediv_of_nonneg _ (by omega),hz];split<;>omega
 refine Zs 14 Tryz.func32 ?_;refine aw ?_;refine Za ?_;refine bV 0 1 4 (aN ?_);refine Zm ?_;refine Zm ?_;refine Zv (ah.qJ (r:=a) rfl rfl Tryz.underlying2 Tryz.underlying94 ha) ?_;refine Zv (ah.Af (r:=(a2:Int)) rfl rfl rfl (by omega) (by rw[IntKind.wrap_u64];show((a:Int)*2)%_=_;omega)) ?_;refine Zm ?_;refine Zv (ah.zT (r:=z) rfl rfl rfl (by omega) hfd) ?_;refine Zv (ah.qJ (r:=b) rfl rfl Tryz.underlying2 Tryz.underlying94 (by rw[hz,hb];split<;>rfl)) ?_;refine Zv (ah.wI (a:=a2) (b:=b) rfl rfl rfl (by omega) (by rw[hb];split<;>omega) (.inr (.inr ⟨rfl,hx⟩))) ?_;refine Zc (Ze Tryz.func79) (mY B g (jT n) _ _ wr hs hl) ?_;clear wr;rintro e w1 ⟨rfl,fw1,wr⟩;refine⟨_,rfl,?_⟩;replace wf:=wf.wf fw1;refine Za ?_;refine bV 0 1 4 (Zt (Cd.ret ?_));refine bQ ?_;exact⟨rfl,wf,wr⟩
theorem xO (B g:Nat)(s bs:List Nat)(w:World)(h:Wr w B g bs)(hs:∀d∈s,d<256)(hl:bs.length+s.length≤1000000000):
  Calls Tryz.prog 80 #[.pointer (some ⟨g,0,none⟩), .string (strOf s)] w fun e w'=>e= .returned (.pointer (some ⟨g,0,none⟩))∧Wf B w w'∧Wr w' B g (bs++s):=by
 have wf:=Wf.refl B w;have wr:=h;refine Zs 9 Tryz.func80 ?_;refine aw ?_;refine Za ?_;refine bV 0 1 4 (aN ?_);refine Zm ?_;refine Zm ?_;refine Seq.sy rfl rfl Tryz.underlying9 Tryz.underlying64 Tryz.underlying5 hs rfl rfl rfl ?_;intro g7 c7 w1 hc7 n7;replace wf:=wf.step n7.below;replace wr:=wr.step n7.below;have hrd:=n7.reads;refine Zc (Ze Tryz.func125) (pS B g _ _ c7 _ _ s _ wr hrd hs hl) ?_;clear wr;rintro e w1 ⟨rfl,fw1,wr⟩;refine⟨_,rfl,?_⟩;replace wf:=wf.wf fw1;refine Za ?_;refine bV 0 1 4 (Zt (Cd.ret ?_));refine bQ ?_;exact⟨rfl,wf,wr⟩
theorem jN (B g:Nat)(s bs:List Nat)(w:World)(h:Wr w B g bs)(hs:∀d∈s,d<256)(hl:bs.length+10+s.length≤1000000000):
  Calls Tryz.prog 31 #[.pointer (some ⟨g,0,none⟩), .string (strOf s)] w fun e w'=>e= .returned (.pointer (some ⟨g,0,none⟩))∧Wf B w w'∧Wr w' B g (bs++(gI s.length++s)):=by
 have wf:=Wf.refl B w;have wr:=h;have hg:=eu s.length;refine Zs 11 Tryz.func31 ?_;refine aw ?_;refine Za ?_;refine bV 0 1 4 (aN ?_);refine Zm ?_;refine Zm ?_;refine Zv (ah.dY rfl rfl Tryz.underlying9) ?_;refine Zc (Ze Tryz.func30) (ig B g s.length _ _ wr (by omega) (by omega)) ?_;clear wr;rintro e w1 ⟨rfl,fw1,wr⟩;refine⟨_,rfl,?_⟩;replace wf:=wf.wf fw1;refine Zm ?_;refine Zc (Ze Tryz.func80) (xO B g s _ _ wr hs (by rw[List.length_append];omega)) ?_;clear wr;rintro e w2 ⟨rfl,fw2,wr⟩;refine⟨_,rfl,?_⟩;replace wf:=wf.wf fw2;rw[List.append_assoc] at wr;refine Za ?_;refine bV 0 1 4 (Zt (Cd.ret ?_));refine bQ ?_;exact⟨rfl,wf,wr⟩
theorem ss (B g:Nat)(bs:List Nat)(w:World)(h:Wr w B g bs):
  Calls Tryz.prog 33 #[.pointer (some ⟨g,0,none⟩)] w fun e w'=>e= .returned (.string (strOf bs))∧Grow w w':=by
 have bel:=Below.refl w.heap.size w;obtain⟨v,k0,own⟩:=h.cell;obtain⟨A,c,rfl,hr⟩:=own.reads;refine Zs 10 Tryz.func33 ?_;refine aw ?_;refine Za ?_;refine eh 0 2 (bo (aw ?_));refine Zm ?_;refine Zv (ah.zj rfl rfl rfl Tryz.underlying74) ?_;refine bV 0 2 4 (Zt ?_);refine Cd.aR rfl rfl ?_;refine Cd.skip (aN ?_);refine Zm ?_;refine Zv (ah.nilCheck rfl rfl) ?_;refine Zf 0 Tryz.underlying76 ?_;refine ZL Tryz.underlying64 k0 ?_;refine Zv (ah.sm rfl rfl Tryz.underlying64 Tryz.underlying5 Tryz.underlying9 hr h.bytes) ?_;refine Za ?_;refine bV 0 2 4 (Zt (Cd.ret ?_));refine bQ ?_;exact⟨rfl,bel⟩
def nv {α:Type}(d:α):List α→Nat→α
 | [],_=>d
 |x::_,0=>x
 |_::r,k+1=>nv d r k
def fA (s:List Nat):List Nat:=gI s.length++s
theorem ot (w:World):(Instr.build 76 #[]).run Tryz.prog w= .ok (.agg #[.slice none 0 0]) w:=by kernel_rfl
structure fJ where
 kind:Nat
 id:List Nat
 a:List Nat
 b:List Nat
 text:List Nat
 day:Nat
 at_:Nat
 df:Nat
 n:Int
def fJ.ev (e:fJ):Ev:=⟨e.kind,e.id,e.a,e.b,e.text,e.day,e.at_,e.df,e.n⟩
def fJ.bytes (e:fJ):List Nat:=gI e.kind++fA e.id++fA e.a++fA e.b++fA e.text++gI e.day++gI e.at_++gI e.df++gI (jT e.n)
structure fJ.fit (e:fJ):Prop where
 kind:e.kind<9223372036854775808
 day:e.day<9223372036854775808
 at_:e.at_<9223372036854775808
 df:e.df<9223372036854775808
 n:bM e.n
 Au:e.id.length≤10000
 la:e.a.length≤10000
 lb:e.b.length≤10000
 qZ:e.text.length≤10000
theorem gn (s:List Nat):(fA s).length≤10+s.length:=by unfold fA;rw[List.length_append];have:=eu s.length;omega
theorem om (e:Ev)(he:e.qu)(hr:bX e=false)(w:World):Calls Tryz.prog 12 #[e.v] w fun en w'=>en= .returned (.tuple #[.string (strOf []), .int .i64 1])∧Grow w w':=by
 have bel:=Below.refl w.heap.size w;have hri:=fun W=>kC e he W;rw[hr] at hri;unfold Ev.v at *;refine Zs 40 Tryz.func12 ?_;refine aw ?_;refine Seq.box rfl rfl rfl rfl rfl ?_;intro g1 w1 n1;have e1:=Nat.le_trans bel.size n1.ge;replace bel:=bel.step n1.below;have k1:=n1.aE;refine Za ?_;refine Za ?_;refine bI 0 1 2 3 (bo (aw ?_));refine ZW 9 Tryz.underlying29 k1 ?_;refine Zc (Ze Tryz.func13) (hri _) ?_;rintro en w5 ⟨rfl,hb5⟩;refine⟨_,rfl,?_⟩;replace bel:=bel.step hb5;replace k1:=k1.step hb5;refine mn ?_;refine br 0 1 2 3 7 (Zt ?_);refine Cd.bb rfl rfl ?_;refine aw ?_;refine Za ?_;refine Za ?_;refine br 0 1 2 3 7 (Zt (Cd.ret (ai.ar ?_)));refine eB ?_;exact⟨rfl,bel⟩
set_option maxHeartbeats 1000000 in
theorem oV (e:fJ)(hf:e.fit)(he:e.ev.qu)(hr:bX e.ev=true)(w:World):Calls Tryz.prog 12 #[e.ev.v] w fun en w'=>en= .returned (.tuple #[.string (strOf e.bytes), .int .i64 0])∧Grow w w':=by
 have bel:=Below.refl w.heap.size w;have hri:=fun W=>kC e.ev he W;rw[hr] at hri;have q1:=eu e.kind;have q2:=gn e.id;have q3:=gn e.a;have q4:=gn e.b;have q5:=gn e.text;have q6:=eu e.day;have q7:=eu e.at_;have q8:=eu e.df;have q9:=eu (jT e.n);obtain⟨h1,h2,h3,h4,h5,l1,l2,l3,l4⟩:=hf;have b1:∀d∈e.id,d<256:=he.id;have b2:∀d∈e.a,d<256:=he.a;have b3:∀d∈e.b,d<256:=he.b;have b4:∀d∈e.text,d<256:=he.text;unfold fJ.ev Ev.v at hri⊢;dsimp only at hri⊢;refine Zs 40 Tryz.func12 ?_;refine aw ?_;refine Seq.box rfl rfl rfl rfl rfl ?_;intro g1 w1 n1;have e1:=Nat.le_trans bel.size n1.ge;replace bel:=bel.step n1.below;have k1:=n1.aE;refine Za ?_;refine Za ?_;refine bI 0 1 2 3 (bo (aw ?_));refine ZW 9 Tryz.underlying29 k1 ?_;refine Zc (Ze Tryz.func13) (hri _) ?_;rintro en w5 ⟨rfl,hb5⟩;refine⟨_,rfl,?_⟩;replace bel:=bel.step hb5;replace k1:=k1.step hb5;refine mn ?_;refine br 0 1 2 3 7 (Zt ?_);refine Cd.aR rfl rfl ?_;refine Cd.skip (aN ?_);refine Zv (ah.build rfl rfl (ot _)) ?_;refine Seq.box rfl rfl rfl rfl rfl ?_;intro g9 w2 n9;have e9:=Nat.le_trans bel.size n9.ge;have l9:=Nat.lt_of_lt_of_le k1.lt n9.ge;replace bel:=bel.step n9.below;replace k1:=k1.step n9.below;have k9:=n9.aE;refine Za ?_;refine cg 0 1 2 3 4 7 (bo ?_);have wr:Wr _ g9 g9 []:=⟨Nat.le_refl _,fun d hd=>(by cases hd),_,k9,Own.nil _ _ _ _⟩;have wf:=Wf.refl g9 w2;have hg9:g9≤w2.heap.size:=Nat.le_of_lt n9.lt;refine Cd.yW 16 (by kernel_rfl) [] [3,6,9,12,15] (fun i h=>by cases h) rfl rfl (.inl rfl) rfl (Wf g9) (Wf.refl g9) (fun _ _ _=>Wf.trans) (fun c w=>Wr w g9 g9 (nv [] [[],gI e.kind,gI e.kind++fA e.id,gI e.kind++fA e.id++fA e.a,gI e.kind++fA e.id++fA e.a++fA e.b,gI e.kind++fA e.id++fA e.a++fA e.b++fA e.text] c)) ?_;intro w3 hw3 zw3;replace k1:=k1.step hw3;replace wf:=wf.step hw3;replace wr:=wr.step hw3;refine⟨wr,?_⟩;have zlt:=k1.lt;refine DJ.val rfl (Wf.refl g9) rfl (fun w hG=>ah.move rfl rfl) rfl ?_;refine DJ.val rfl (Wf.refl g9) rfl (fun w hG=>ah.aA 0 rfl rfl Tryz.underlying29 rfl (by kernel_rfl)) rfl ?_;refine DJ.val rfl (Wf.refl g9) rfl (fun w hG=>ah.aB rfl rfl Tryz.underlying3 rfl (k1.wf hG) rfl) rfl ?_;refine DJ.chain 0 rfl rfl (fun w=>Ze Tryz.func30) rfl (fun w hG wr=>ig g9 g9 e.kind [] _ wr h1 (by simp)) ?_;refine DJ.val rfl (Wf.refl g9) rfl (fun w hG=>ah.aA 1 rfl rfl Tryz.underlying29 rfl (by kernel_rfl)) rfl ?_;refine DJ.val rfl (Wf.refl g9) rfl (fun w hG=>ah.aB rfl rfl Tryz.underlying9 rfl (k1.wf hG) rfl) rfl ?_;refine DJ.chain 1 rfl rfl (fun w=>Ze Tryz.func31) rfl (fun w hG wr=>jN g9 g9 e.id _ _ wr b1 (by first|omega|(simp only[nv];omega))) ?_;refine DJ.val rfl (Wf.refl g9) rfl (fun w hG=>ah.aA 2 rfl rfl Tryz.underlying29 rfl (by kernel_rfl)) rfl ?_;refine DJ.val rfl (Wf.refl g9) rfl (fun w hG=>ah.aB rfl rfl Tryz.underlying9 rfl (k1.wf hG) rfl) rfl ?_;refine DJ.chain 2 rfl rfl (fun w=>Ze Tryz.func31) rfl (fun w hG wr=>jN g9 g9 e.a _ _ wr b2 (by simp only[nv,List.length_append];omega)) ?_;refine DJ.val rfl (Wf.refl g9) rfl (fun w hG=>ah.aA 3 rfl rfl Tryz.underlying29 rfl (by kernel_rfl)) rfl ?_;refine DJ.val rfl (Wf.refl g9) rfl (fun w hG=>ah.aB rfl rfl Tryz.underlying9 rfl (k1.wf hG) rfl) rfl ?_;refine DJ.chain 3 rfl rfl (fun w=>Ze Tryz.func31) rfl (fun w hG wr=>jN g9 g9 e.b _ _ wr b3 (by simp only[nv,List.length_append];omega)) ?_;refine DJ.val rfl (Wf.refl g9) rfl (fun w hG=>ah.aA 4 rfl rfl Tryz.underlying29 rfl (by kernel_rfl)) rfl ?_;refine DJ.val rfl (Wf.refl g9) rfl (fun w hG=>ah.aB rfl rfl Tryz.underlying9 rfl (k1.wf hG) rfl) rfl ?_;refine DJ.chain 4 rfl rfl (fun w=>Ze Tryz.func31) rfl (fun w hG wr=>jN g9 g9 e.text _ _ wr b4 (by simp only[nv,List.length_append];omega)) ?_;refine DJ.nil ?_;refine cD.done (F':=[(0,_),(1,_),(2,_),(3,_),(4,_),(7,_)]) rfl ⟨rfl,rfl,rfl,rfl,rfl,rfl,trivial⟩ ?_;intro w4 hw4 fw4;replace k1:=k1.wf hw4;replace wf:=wf.wf hw4;clear wr;have wr:=fw4;refine cg 0 1 2 3 4 7 (bo ?_);replace wr:Wr _ g9 g9 (gI e.kind++fA e.id++fA e.a++fA e.b++fA e.text):=wr;refine Cd.yW 13 (by kernel_rfl) [] [3,6,9,12] (fun i h=>by cases h) rfl rfl (.inl rfl) rfl (Wf g9) (Wf.refl g9) (fun _ _ _=>Wf.trans) (fun c w=>Wr w g9 g9 (nv [] [gI e.kind++fA e.id++fA e.a++fA e.b++fA e.text,gI e.kind++fA e.id++fA e.a++fA e.b++fA e.text++gI e.day,gI e.kind++fA e.id++fA e.a++fA e.b++fA e.text++gI e.day++gI e.at_,gI e.kind++fA e.id++fA e.a++fA e.b++fA e.text++gI e.day++gI e.at_++gI e.df,gI e.kind++fA e.id++fA e.a++fA e.b++fA e.text++gI e.day++gI e.at_++gI e.df++gI (jT e.n)] c)) ?_;intro w5 hw5 zw5;replace k1:=k1.step hw5;replace wf:=wf.step hw5;replace wr:=wr.step hw5;refine⟨wr,?_⟩;have zlt:=k1.lt;refine DJ.val rfl (Wf.refl g9) rfl (fun w hG=>ah.move rfl rfl) rfl ?_;refine DJ.val rfl (Wf.refl g9) rfl (fun w hG=>ah.aA 5 rfl rfl Tryz.underlying29 rfl (by kernel_rfl)) rfl ?_;refine DJ.val rfl (Wf.refl g9) rfl (fun w hG=>ah.aB rfl rfl Tryz.underlying3 rfl (k1.wf hG) rfl) rfl ?_;refine DJ.chain 0 rfl rfl (fun w=>Ze Tryz.func30) rfl (fun w hG wr=>ig g9 g9 e.day _ _ wr h2 (by simp only[nv,List.length_append];omega)) ?_;refine DJ.val rfl (Wf.refl g9) rfl (fun w hG=>ah.aA 6 rfl rfl Tryz.underlying29 rfl (by kernel_rfl)) rfl ?_;refine DJ.val rfl (Wf.refl g9) rfl (fun w hG=>ah.aB rfl rfl Tryz.underlying3 rfl (k1.wf hG) rfl) rfl ?_;refine DJ.chain 1 rfl rfl (fun w=>Ze Tryz.func30) rfl (fun w hG wr=>ig g9 g9 e.at_ _ _ wr h3 (by simp only[nv,List.length_append];omega)) ?_;refine DJ.val rfl (Wf.refl g9) rfl (fun w hG=>ah.aA 7 rfl rfl Tryz.underlying29 rfl (by kernel_rfl)) rfl ?_;refine DJ.val rfl (Wf.refl g9) rfl (fun w hG=>ah.aB rfl rfl Tryz.underlying3 rfl (k1.wf hG) rfl) rfl ?_;refine DJ.chain 2 rfl rfl (fun w=>Ze Tryz.func30) rfl (fun w hG wr=>ig g9 g9 e.df _ _ wr h4 (by simp only[nv,List.length_append];omega)) ?_;refine DJ.val rfl (Wf.refl g9) rfl (fun w hG=>ah.aA 8 rfl rfl Tryz.underlying29 rfl (by kernel_rfl)) rfl ?_;refine DJ.val rfl (Wf.refl g9) rfl (fun w hG=>ah.aB rfl rfl Tryz.underlying2 rfl (k1.wf hG) rfl) rfl ?_;refine DJ.chain 3 rfl rfl (fun w=>Ze Tryz.func32) rfl (fun w hG wr=>sr g9 g9 e.n _ _ wr h5 (by simp only[nv,List.length_append];omega)) ?_;refine DJ.nil ?_;refine cD.done (F':=[(0,_),(1,_),(2,_),(3,_),(4,_),(7,_),(38,_)]) rfl ⟨rfl,rfl,rfl,rfl,rfl,rfl,rfl,trivial⟩ ?_;intro w6 hw6 fw6;replace k1:=k1.wf hw6;replace wf:=wf.wf hw6;clear wr;have wr:=fw6;replace wr:Wr _ g9 g9 e.bytes:=wr;have bel2:=bel.trans ((wf.to hg9).mono e9);clear bel;have bel:=bel2;refine Zc (Ze Tryz.func33) (ss g9 g9 _ _ wr) ?_;rintro en w15 ⟨rfl,hb15⟩;refine⟨_,rfl,?_⟩;replace wr:=wr.step hb15;replace bel:=bel.step hb15;refine Za ?_;refine Za ?_;refine cg 0 1 2 3 4 7 (Zt (Cd.ret ?_));refine eB ?_;exact⟨rfl,bel⟩
def iV (s:List Nat):Prop:=∀d∈s,d<256
theorem iV.drop {s:List Nat}(h:iV s)(k:Nat):iV (s.drop k):=fun d hd=>h d (List.mem_of_mem_drop hd)
theorem iV.take {s:List Nat}(h:iV s)(k:Nat):iV (s.take k):=fun d hd=>h d (List.mem_of_mem_take hd)
theorem iV.tail {c:Nat}{s:List Nat}(h:iV (c::s)):iV s:=fun d hd=>h d (List.mem_cons_of_mem _ hd)
theorem iV.right {a s:List Nat}(h:iV (a++s)):iV s:=fun d hd=>h d (List.mem_append_right _ hd)
def gr:Nat→Nat→List Nat→Option (Nat × List Nat)
 |_,_,[]=>none
 |i,n,c::r=>if(i=9∧1<c)∨(0<i∧c=0) then none else if c<128 then some (n+c%128*2^(7*i),r) else gr (i+1) (n+c%128*2^(7*i)) r
def gP (s:List Nat):Option (Nat × List Nat):=gr 0 0 s
theorem zM (i:Nat):2^(7*(i+1))=2^(7*i)*128:=by rw[Nat.mul_add,Nat.pow_add]
theorem tB:∀(k i n m:Nat) (r:List Nat),i+k=9→m<2*128^k→(0<i→0<m)→gr i n (iz k m++r)=some (n+m*2^(7*i),r)
 |k,i,n,m,r,hk,hm,h0=>by
  by_cases hs:m<128
  ·rw[kr hs]
   show(if(i=9∧1<m)∨(0<i∧m=0) then none else if m<128 then some (n+m%128*2^(7*i),r) else gr (i+1) (n+m%128*2^(7*i)) r)=_;rw[if_neg,if_pos hs,Nat.mod_eq_of_lt hs];rintro(⟨rfl,h⟩|⟨h1,h2⟩)
   ·obtain rfl:k=0:=by omega
    simp at hm;omega
   ·have:=h0 h1;omega
  ·obtain⟨k,rfl⟩:∃j,k=j+1:=⟨k-1,by
    rcases Nat.eq_zero_or_pos k with h|h
    ·subst h;simp at hm;omega
    ·omega⟩
   rw[lq hs];show(if(i=9∧1<m%128+128)∨(0<i∧m%128+128=0) then none else if m%128+128<128 then some (n+(m%128+128)%128*2^(7*i),iz k (m/128)++r) else gr (i+1) (n+(m%128+128)%128*2^(7*i)) (iz k (m/128)++r))=_;rw[if_neg (by omega),if_neg (by omega),tB k (i+1) _ (m/128) r (by omega) (by rw[Nat.pow_succ] at hm;rw[Nat.div_lt_iff_lt_mul (by omega)];omega) (by omega)];congr 2;rw[show(m%128+128)%128=m%128 by omega,zM]
   have e:m%128*2^(7*i)+m/128*(2^(7*i)*128)=(m%128+128*(m/128))*2^(7*i):=by
    rw[Nat.add_mul,Nat.mul_comm (2^(7*i)) 128,←Nat.mul_assoc,Nat.mul_comm (m/128) 128]
   rw[Nat.add_assoc,e,Nat.mod_add_div]
theorem rj:∀(s:List Nat) (i n v:Nat) (r:List Nat),iV s→i≤9→gr i n s=some (v,r)→∃m,v=n+m*2^(7*i)∧s=iz (9-i) m++r∧m<2*128^(9-i)∧(0<i→0<m)
 | [],i,n,v,r,_,_,h=>by cases h
 |c::t,i,n,v,r,hb,hi,h=>by
  have hc:=hb c List.mem_cons_self;unfold gr at h
  by_cases hx:(i=9∧1<c)∨(0<i∧c=0)
  ·rw[if_pos hx] at h;cases h
  ·rw[if_neg hx] at h
   by_cases hs:c<128
   ·rw[if_pos hs] at h
    injection h with h
    injection h with h1 h2
    subst h2;refine⟨c,by rw[←h1,Nat.mod_eq_of_lt hs],by rw[kr hs];rfl,?_,by omega⟩;rcases Nat.lt_or_ge i 9 with h9|h9
    ·have:128^1≤128^(9-i):=Nat.pow_le_pow_right (by omega) (by omega)
     omega
    ·obtain rfl:i=9:=by omega
     simp;omega
   ·rw[if_neg hs] at h
    have h9:i<9:=by omega
    obtain⟨m,e1,e2,e3,e4⟩:=rj t (i+1) _ v r hb.tail (by omega) h;have e4:=e4 (by omega);have hk:9-i=(9-(i+1))+1:=by omega
    refine⟨c%128+128*m,?_,?_,?_,by omega⟩
    ·rw[e1,zM,Nat.add_assoc]
     congr 1;rw[Nat.add_mul,Nat.mul_comm (2^(7*i)) 128,←Nat.mul_assoc,Nat.mul_comm m 128]
    ·rw[hk,lq (by omega),show(c%128+128*m)/128=m by omega,show(c%128+128*m)%128+128=c by omega,e2];rfl
    ·rw[hk,Nat.pow_succ];omega
structure zw {α:Type}(p:List Nat→Option (α × List Nat))(enc:α→List Nat)(ok:α→Prop):Prop where
 full:∀a r,ok a→p (enc a++r)=some (a,r)
 sound:∀s a r,iV s→p s=some (a,r)→ok a∧s=enc a++r
theorem pJ:zw gP gI (fun n=>n<18446744073709551616) where
 full:=fun n r h=>by
  have:=tB 9 0 0 n r (by omega) (by omega) (by omega)
  simpa[gP,gI] using this
 sound:=fun s n r hs h=>by
  obtain⟨m,e1,e2,e3,-⟩:=rj s 0 0 n r hs (by omega) h;obtain rfl:n=m:=by rw[e1];simp
  exact⟨by have:(9-0:Nat)=9:=rfl;rw[this] at e3;omega,e2⟩
def dx (s:List Nat):Option (Nat × List Nat):=(gP s).bind fun x=>if x.1<9223372036854775808 then some x else none
def fa (n:Int)(s:List Nat):Option (List Nat × List Nat):=if 0≤n∧n≤(s.length:Int) then some (s.take n.toNat,s.drop n.toNat) else none
def iY (most:Nat)(s:List Nat):Option (List Nat × List Nat):=(dx s).bind fun x=>if x.1≤most then fa x.1 x.2 else none
def gy (n:Nat):Int:=if n%2=0 then((n/2:Nat):Int) else -((n/2:Nat):Int)-1
def me (s:List Nat):Option (Int × List Nat):=(gP s).map fun x=>(gy x.1,x.2)
theorem du:zw dx gI (fun n=>n<9223372036854775808) where
 full:=fun n r h=>by
  unfold dx;rw[pJ.full n r (by omega)];show(if n<_ then _ else _)=_;rw[if_pos h]
 sound:=fun s n r hs h=>by
  unfold dx at h
  cases hg:gP s with
  |none=>rw[hg] at h;cases h
  |some x=>
   rw[hg] at h;replace h:(if x.1<9223372036854775808 then some x else none)=some (n,r):=h;split at h
   ·injection h with h
    subst h;exact⟨by assumption,(pJ.sound s n r hs hg).2⟩
   ·cases h
theorem fo (most:Nat)(hm:most<9223372036854775808):zw (iY most) fA (fun t=>t.length≤most) where
 full:=fun t r h=>by
  unfold iY fA;rw[List.append_assoc,du.full _ _ (by omega)];show(if t.length≤most then fa t.length (t++r) else none)=_;rw[if_pos h];unfold fa;rw[if_pos (by simp;omega)];simp
 sound:=fun s t r hs h=>by
  unfold iY at h
  cases hg:dx s with
  |none=>rw[hg] at h;cases h
  |some x=>
   obtain⟨n,q⟩:=x;obtain⟨o1,rfl⟩:=du.sound s n q hs hg;rw[hg] at h;replace h:(if n≤most then fa n q else none)=some (t,r):=h;split at h
   ·unfold fa at h
    split at h
    ·rename_i h1 h2
     injection h with h
     injection h with e1 e2
     simp only[Int.toNat_natCast] at e1 e2;have hl:t.length=n:=by rw[←e1,List.length_take];omega
     refine⟨by omega,?_⟩;unfold fA;rw[hl,List.append_assoc,←e1,←e2,List.take_append_drop]
    ·cases h
   ·cases h
theorem uN {n:Int}(h:bM n):gy (jT n)=n:=by
 unfold bM at h;unfold jT gy;split
 ·rw[if_pos (by omega)];omega
 ·rw[if_neg (by omega)];omega
theorem oL {n:Nat}(h:n<18446744073709551616):jT (gy n)=n∧bM (gy n):=by
 unfold gy jT bM;split
 ·rw[if_pos (by omega)];omega
 ·rw[if_neg (by omega)];omega
theorem qL:zw me (fun n=>gI (jT n)) bM where
 full:=fun n r h=>by
  unfold me;rw[pJ.full _ r (sK h)];show some (gy (jT n),r)=_;rw[uN h]
 sound:=fun s n r hs h=>by
  unfold me at h
  cases hg:gP s with
  |none=>rw[hg] at h;cases h
  |some x=>
   obtain⟨m,q⟩:=x;obtain⟨o1,rfl⟩:=pJ.sound s m q hs hg;rw[hg] at h;replace h:some (gy m,q)=some (n,r):=h;injection h with h
   injection h with e1 e2
   subst e1 e2;obtain⟨e3,e4⟩:=oL o1;refine⟨e4,?_⟩;simp only[e3]
section
variable {α:Type} {one:List Nat→Option (α × List Nat)} {enc:α→List Nat} {ok:α→Prop}
end
structure Kf (g:Nat)(w w':World):Prop where
 only:w.grownBy w' (some g)
section
variable {g:Nat} {w w' w'':World}
theorem Kf.refl (g:Nat)(w:World):Kf g w w:=⟨j5 (Below.refl _ _) _⟩
theorem Kf.trans (h:Kf g w w')(k:Kf g w' w''):Kf g w w'':=⟨mX h.only k.only⟩
theorem Kf.step (h:Kf g w w')(k:Below w'.heap.size w' w''):Kf g w w'':=⟨nW h.only k⟩
theorem Kf.size (h:Kf g w w'):w.heap.size≤w'.heap.size:=h.only.size
theorem Kf.put {g':Nat}{T:TypeId}{cur cs:Array Value}(h:Kf g w w')(_k:aQ w' g' T cur)(p:kW w' w'' g' T cs)(e:w.heap.size≤g'):Kf g w w'':=
 ⟨p.grown.os.trans h.only.os,p.grown.tape.trans h.only.tape,p.grown.output.trans h.only.output,by have:=p.size;have:=h.size;omega,fun k hk hne=>(p.grown.block k (by have:=h.size;omega) (fun e'=>by injection e' with e';omega)).trans (h.only.block k hk hne)⟩
theorem Kf.own {T:TypeId}{cs:Array Value}(h:Kf g w w')(p:kW w' w'' g T cs):Kf g w w'':=h.trans ⟨p.grown⟩
theorem Kf.to {B:Nat}(h:Kf g w w')(hB:B≤g)(hg:g<w.heap.size):Below B w w':=gM h.only hB hg
end
def Rd (T:TypeId)(w:World)(g:Nat)(o:Option (List Nat)):Prop:=∃s b,aQ w g T #[.string (strOf s), .bool b]∧iV s∧o=if b=true then none else some s
section
variable {T:TypeId} {w w' w'':World} {g:Nat} {o:Option (List Nat)}
theorem Rd.step (h:Rd T w g o)(k:Below w.heap.size w w'):Rd T w' g o:=by
 obtain⟨s,b,h1,h2,h3⟩:=h;exact⟨s,b,h1.step k,h2,h3⟩
theorem Rd.put {g' B:Nat}{T':TypeId}{cur cs:Array Value}(h:Rd T w g o)(k:aQ w g' T' cur)(p:kW w w' g' T' cs)(_e:B≤g')(hne:T≠T':=by decide):Rd T w' g o:=by
 obtain⟨s,b,h1,h2,h3⟩:=h;exact⟨s,b,h1.put p (h1.ne k hne),h2,h3⟩
theorem Rd.lt (h:Rd T w g o):g<w.heap.size:=by
 obtain⟨s,b,h1,-⟩:=h;exact h1.lt
theorem Kf.kf (h:Kf g w w')(f:Kf g w' w'')(_rd:Rd T w' g o):Kf g w w'':=h.trans f
theorem aQ.kf {k:Nat}{t:TypeId}{cs:Array Value}(h:aQ w k t cs)(f:Kf g w w')(rd:Rd T w g o)(hne:t≠T:=by decide):aQ w' k t cs:=by
 obtain⟨s,b,h1,-⟩:=rd;exact h.grown f.only (fun e=>h.ne h1 hne (by injection e))
theorem Rd.bad {s:List Nat}(k:aQ w g T #[.string (strOf s), .bool true]) (hs:iV s):Rd T w g none:=⟨s,true,k,hs,rfl⟩
theorem Rd.Ah {s:List Nat}(k:aQ w g T #[.string (strOf s), .bool false]) (hs:iV s):Rd T w g (some s):=⟨s,false,k,hs,rfl⟩
end
def rest {α:Type}(p:List Nat→Option (α × List Nat))(o:Option (List Nat)):Option (List Nat):=(o.bind p).map Prod.snd
def jR {α:Type}(p:List Nat→Option (α × List Nat))(o:Option (List Nat))(z:α):Prop:=∀a r,o.bind p=some (a,r)→z=a
theorem eI {α:Type}{p:List Nat→Option (α × List Nat)}{o:Option (List Nat)}{z:α}(h:o.bind p=none):jR p o z:=fun a r e=>by rw[h] at e;cases e
theorem jK {α:Type}{p:List Nat→Option (α × List Nat)}{o:Option (List Nat)}{z:α}{r:List Nat}(h:o.bind p=some (z,r)):jR p o z:=fun a r' e=>by rw[h] at e;injection e with e;injection e
def qC (n:Int)(o:Option (List Nat)):List Nat:=((o.bind (fa n)).map Prod.fst).getD []
theorem oE (g:Nat)(o:Option (List Nat))(w:World)(h:Rd 146 w g o):Calls Tryz.prog 87 #[.pointer (some ⟨g,0,none⟩)] w fun e w'=>e= .returned (.bool o.isSome)∧Grow w w':=by
 obtain⟨s,b,k0,hs,rfl⟩:=h;have bel:=Below.refl w.heap.size w;refine Zs 12 Tryz.func87 ?_;refine aw ?_;refine Za ?_;refine eh 0 2 (aN ?_);refine Zm ?_;refine Zv (ah.zo rfl rfl rfl Tryz.underlying86) ?_;refine Zm ?_;refine aJ.start ?_;refine cF (fun hcx=>ah.move rfl rfl) ?_;refine Zn (fun hcx=>ah.nilCheck rfl rfl) ?_;refine Zn (fun hcx=>ah.aA 1 rfl rfl Tryz.underlying146 rfl (by kernel_rfl)) ?_;refine Zn (fun hcx=>ah.aB rfl rfl Tryz.underlying4 rfl k0 rfl) ?_;refine Zn (fun hcx=>ah.not rfl rfl) ?_;refine gD ?_;refine Za ?_;refine eh 0 2 (Zt (Cd.ret ?_));refine bQ ?_;exact⟨bW (aV (by cases b<;>rfl)),bel⟩
theorem jF (g:Nat)(o:Option (List Nat))(w:World)(h:Rd 146 w g o):Calls Tryz.prog 85 #[.pointer (some ⟨g,0,none⟩)] w fun e w'=>e= .returned (.tuple #[])∧Kf g w w'∧Rd 146 w' g none:=by
 obtain⟨s,b,k0,hs,rfl⟩:=h;refine Zs 7 Tryz.func85 ?_;refine aw ?_;refine Zm ?_;refine Zv (ah.zo rfl rfl rfl Tryz.underlying86) ?_;refine eh 0 3 (Zt ?_);refine Cd.bb rfl rfl ?_;refine Zr ?_;refine Zm ?_;refine Zv (ah.nilCheck rfl rfl) ?_;refine Zf 1 Tryz.underlying146 ?_;refine Zq k0 ?_;intro w1 pw1;replace k0:=pw1.aE;refine eh 0 3 ?_;refine ai.fq rfl (.inr rfl) ?_;exact⟨rfl,⟨pw1.grown⟩,Rd.bad k0 hs⟩
theorem qT (g:Nat)(n:Int)(o:Option (List Nat))(w:World)(h:Rd 146 w g o):Calls Tryz.prog 86 #[.pointer (some ⟨g,0,none⟩), .int .i64 n] w fun e w'=>e= .returned (.string (strOf (qC n o)))∧Kf g w w'∧Rd 146 w' g (rest (fa n) o):=by
 have rd:=h;obtain⟨s,b,k0,hs,ho⟩:=h;have kf:=Kf.refl g w;refine Zs 40 Tryz.func86 ?_;refine aw ?_;refine Za ?_;refine bV 0 1 4 (bo (aw ?_));refine Zm ?_;refine Zc (Ze Tryz.func87) (oE g o _ rd) ?_;rintro e w5 ⟨rfl,hb5⟩;refine⟨_,rfl,?_⟩;replace kf:=kf.step hb5;replace rd:=rd.step hb5;replace k0:=k0.step hb5;refine mn ?_;refine Zm ?_;refine aJ.start ?_;refine cF (fun hcx=>ah.move rfl rfl) ?_;refine Zn (fun hcx=>ah.lss rfl rfl rfl) ?_;refine gS ?_;refine Zm ?_;refine aJ.start ?_;refine cF (fun hcx=>ah.move rfl rfl) ?_;refine kY ?_;refine Zn (fun hcx=>ah.nilCheck rfl rfl) ?_;refine Zn (fun hcx=>ah.aA 0 rfl rfl Tryz.underlying146 rfl (by kernel_rfl)) ?_;refine Zn (fun hcx=>ah.aB rfl rfl Tryz.underlying9 rfl k0 rfl) ?_;refine Zn (fun hcx=>ah.dY rfl rfl Tryz.underlying9) ?_;refine Zn (fun hcx=>ah.gtr rfl rfl rfl) ?_;refine gS ?_;refine bI 0 1 4 21 (Zt ?_);refine Cd.cond rfl (fun h=> ?_) (fun h=> ?_)
 ·have hr:o.bind (fa n)=none:=by
   rw[ho]
   cases b with
   |true=>rfl
   |false=>
    rw[ho] at h;simp at h;show fa n s=none;unfold fa;rw[if_neg (by omega)]
  refine aw ?_;refine Zm ?_;refine Zc (Ze Tryz.func85) (jF g o _ rd) ?_;rintro e w1 ⟨rfl,fw1,rd'⟩;refine⟨_,rfl,?_⟩;replace kf:=kf.kf fw1 rd;replace rd:=rd';clear rd';refine bI 0 1 4 21 (aN ?_);refine Za ?_;refine bI 0 1 4 21 (Zt (Cd.ret (ai.ar ?_)));refine bQ ?_;unfold rest qC;rw[hr];exact⟨rfl,kf,rd⟩
 ·have hb:b=false:=by
   cases b with
   |false=>rfl
   |true=>rw[ho] at h;simp at h
  subst hb;have ho':o=some s:=ho;rw[ho'] at h;simp at h
  have hr:o.bind (fa n)=some (s.take n.toNat,s.drop n.toNat):=by
   rw[ho'];show fa n s=_;unfold fa;rw[if_pos (by omega)]
  refine Cd.skip (aN ?_);refine Zm ?_;refine Zv (ah.nilCheck rfl rfl) ?_;refine Zf 0 Tryz.underlying146 ?_;refine ZL Tryz.underlying9 k0 ?_;refine Zm ?_;refine Zv (ah.sliceTo rfl rfl rfl Tryz.underlying9 (j:=n.toNat) (by omega) (by omega)) ?_;refine Za ?_;refine br 0 1 4 5 21 (aN ?_);refine Zm ?_;refine Zm ?_;refine Zv (ah.nilCheck rfl rfl) ?_;refine Zf 0 Tryz.underlying146 ?_;refine ZL Tryz.underlying9 k0 ?_;refine Zm ?_;refine Zv (ah.sliceFrom rfl rfl rfl Tryz.underlying9 (j:=n.toNat) (by omega) (by omega)) ?_;refine Zv (ah.nilCheck rfl rfl) ?_;refine Zf 0 Tryz.underlying146 ?_;refine Zq k0 ?_;intro w1 pw1;replace k0:=pw1.aE;refine br 0 1 4 5 21 (aN ?_);refine Zm ?_;have kf2:=kf.own pw1;refine Za ?_;refine br 0 1 4 5 21 (Zt (Cd.ret ?_));refine bQ ?_;unfold rest qC;rw[hr];exact⟨rfl,kf2,Rd.Ah k0 (hs.drop _)⟩
theorem cC {α:Type}{p:List Nat→Option (α × List Nat)}{o:Option (List Nat)}(h:o.bind p=none):rest p o=none:=by unfold rest;rw[h];rfl
theorem ed {α:Type}{p:List Nat→Option (α × List Nat)}{o:Option (List Nat)}{z:α}{r:List Nat}(h:o.bind p=some (z,r)):rest p o=some r:=by unfold rest;rw[h];rfl
theorem vX {i:Nat}(hi:i≤9):2^(7*i)≤9223372036854775808:=by
 have:2^(7*i)≤2^63:=Nat.pow_le_pow_right (by omega) (by omega);exact this
theorem yu {i c:Nat}(hi:i≤9)(hc:i=9→c≤1):c%128*2^(7*i)≤18446744073709551616-2^(7*i):=by
 have hm:c%128≤127:=by omega
 rcases Nat.lt_or_ge i 9 with h|h
 ·have h1:2^(7*i)≤2^56:=Nat.pow_le_pow_right (by omega) (by omega)
  have h2:c%128*2^(7*i)≤127*2^56:=Nat.mul_le_mul hm h1;omega
 ·obtain rfl:i=9:=by omega
  have:=hc rfl;have h3:(2:Nat)^(7*9)=9223372036854775808:=rfl;rw[h3];omega
theorem yj {i n c:Nat}(hi:i≤9)(hc:i=9→c≤1)(hn:n<2^(7*i)):c%128*2^(7*i)<18446744073709551616∧n+c%128*2^(7*i)<18446744073709551616∧n<18446744073709551616:=by
 have h1:=vX hi;have h2:=yu hi hc;have h3:0<2^(7*i):=Nat.two_pow_pos _
 generalize c%128*2^(7*i)=T at *
 generalize 2^(7*i)=p at *
 omega
theorem xG {c i:Nat}(h:c%128*2^(7*i)<18446744073709551616):IntKind.u64.wrap (((c%2^7:Nat):Int)*2^(7*i))=((c%128*2^(7*i):Nat):Int):=by
 have e:((c%2^7:Nat):Int)*2^(7*i)=((c%128*2^(7*i):Nat):Int):=by rw[Int.natCast_mul,Int.natCast_pow];rfl
 rw[e];exact nB (Int.natCast_nonneg _) (Int.ofNat_lt.2 h)
theorem lO (g:Nat)(o:Option (List Nat))(w:World)(h:Rd 146 w g o):Calls Tryz.prog 84 #[.pointer (some ⟨g,0,none⟩)] w fun e w'=>∃z:Nat,(z<18446744073709551616∧jR gP o z∧e= .returned (.int .u64 (z:Int)))∧Kf g w w'∧Rd 146 w' g (rest gP o):=by
 have rd:=h;have kf:=Kf.refl g w;refine Zs 42 Tryz.func84 ?_;refine aw ?_;refine Za ?_;refine eh 0 2 (aN ?_);refine Za ?_;refine bV 0 2 3 (aN ?_);refine Za ?_;refine bI 0 2 3 4 (Zt (Cd.block ?_))
 refine Cd.loop (σ:=Nat × Nat × Option (List Nat)) (fun s=>[(0, .pointer (some ⟨g,0,none⟩)),(3, .int .u64 (s.2.1:Int)),(4, .int .i64 (s.1:Int))])
  (fun s wr=>s.1≤9∧s.2.1<2^(7*s.1)∧s.2.2.bind (gr s.1 s.2.1)=o.bind gP∧Kf g w wr∧Rd 146 wr g s.2.2) (fun s=>10-s.1) (0,0,o) ⟨Nat.zero_le _,(show 0<2^(7*0) by decide),rfl,kf,rd⟩ ⟨rfl,rfl,rfl,trivial⟩ ?_
 clear kf rd;rintro⟨i,n,q⟩ wr ⟨hi,hn,hq,kf,rd⟩;simp only at hi hn hq rd;show Cd _ _ _ _ [(0, .pointer (some ⟨g,0,none⟩)),(3, .int .u64 (n:Int)),(4, .int .i64 (i:Int))] _;have hlow:=vX hi;refine Cd.seq (Cd.block (aw ?_));refine Zm ?_;have hbyt0:=rd;refine Zc (Ze Tryz.func86) (qT g 1 q _ rd) ?_;rintro e w1 ⟨rfl,fw1,rd'⟩;refine⟨_,rfl,?_⟩;replace kf:=kf.kf fw1 rd;replace rd:=rd';clear rd'
 cases hqq:q.bind (fa 1) with
 |none=>
  have hnone:o.bind gP=none:=by
   rw[←hq]
   cases q with
   |none=>rfl
   |some s=>
    cases s with
    |nil=>rfl
    |cons c r=>
     exfalso;have:fa 1 (c::r)=none:=hqq;unfold fa at this;rw[if_pos (by simp;omega)] at this
     cases this
  rw[cC hqq] at rd;rw[show qC 1 q=[] by unfold qC;rw[hqq];rfl];refine Za ?_;refine bI 0 3 4 5 (bo (aw ?_));refine Zm ?_;refine Zv (ah.dM (a:=[]) (b:=[]) rfl rfl rfl (by simp) (by simp)) ?_;refine br 0 3 4 5 12 (Zt ?_);refine Cd.bb rfl rfl ?_;refine aw ?_;refine Za ?_;refine cg 0 2 3 4 5 12 (Zt (Cd.ret (ai.ar (ai.au (ai.ar (ai.bL (ai.au ?_)))))));refine bQ ?_;refine⟨0,⟨by decide,eI hnone,rfl⟩,kf,?_⟩;rw[cC hnone];exact rd
 |some x=>
  obtain⟨c,r,rfl⟩:∃c r,q=some (c::r):=by
   cases q with
   |none=>cases hqq
   |some s=>
    cases s with
    |nil=>exact absurd (show fa 1 []=some x from hqq) (by simp[fa])
    |cons c r=>exact⟨c,r,rfl⟩
  have hx:x=([c],r):=by
   have:fa 1 (c::r)=some x:=hqq;unfold fa at this;rw[if_pos (by simp;omega)] at this;injection this with this
   rw[←this];rfl
  subst hx;have rdc:=hbyt0;rw[ed hqq] at rd;rw[show qC 1 (some (c::r))=[c] by unfold qC;rw[hqq];rfl]
  have hbr:iV (c::r):=by
   obtain⟨s',b',-,hs',ho'⟩:=rdc
   cases b' with
   |true=>cases ho'
   |false=>injection ho' with ho';rw[ho'];exact hs'
  have hc:=hbr c List.mem_cons_self;have hgr:gr i n (c::r)=if(i=9∧1<c)∨(0<i∧c=0) then none else if c<128 then some (n+c%128*2^(7*i),r) else gr (i+1) (n+c%128*2^(7*i)) r:=rfl;replace hq:gr i n (c::r)=o.bind gP:=hq;rw[hgr] at hq;refine Za ?_;refine bI 0 3 4 5 (bo (aw ?_));refine Zm ?_;refine Zv (ah.dM (a:=[c]) (b:=[]) rfl rfl rfl (by intro x hx;simp at hx;omega) (by simp)) ?_;refine br 0 3 4 5 12 (Zt ?_);refine Cd.aR rfl (decide_eq_false (by simp)) ?_;refine Cd.skip (aN ?_);refine Zm ?_;refine Zv (ah.fX (j:=0) (c:=c) rfl rfl rfl Tryz.underlying9 rfl rfl hc) ?_;refine Zv (ah.fm rfl rfl Tryz.underlying5 Tryz.underlying94 (nB (by omega) (by omega))) ?_;refine Za ?_;refine cg 0 3 4 5 6 12 (bo (aw ?_));refine Zm ?_;refine bF ?_;refine Zm ?_;refine aJ.start ?_;refine cF (fun hcx=>ah.move rfl rfl) ?_;refine Zn (fun hcx=>ah.gtr rfl rfl rfl) ?_;refine gD ?_;refine Zm ?_;refine aJ.start ?_;refine cF (fun hcx=>ah.move rfl rfl) ?_;refine Zn (fun hcx=>ah.gtr rfl rfl rfl) ?_;refine kY ?_;refine cF (fun hcx=>ah.move rfl rfl) ?_;refine Zn (fun hcx=>ah.gU rfl rfl rfl) ?_;refine aJ.sh rfl rfl rfl rfl rfl rfl rfl rfl rfl rfl rfl ?_;refine gS ?_;refine bU 0 3 4 5 6 12 29 (Zt ?_);refine Cd.cond rfl (fun h=> ?_) (fun h=> ?_)
  ·rw[if_pos (by simp at h;omega)] at hq
   refine aw ?_;refine Zm ?_;refine Zc (Ze Tryz.func85) (jF g _ _ rd) ?_;rintro e w2 ⟨rfl,fw2,rd'⟩;refine⟨_,rfl,?_⟩;replace kf:=kf.kf fw2 rd;replace rd:=rd';clear rd';refine bU 0 3 4 5 6 12 29 (aN ?_);refine Za ?_;refine db 0 2 3 4 5 6 12 29 (Zt (Cd.ret (ai.ar (ai.au (ai.ar (ai.bL (ai.au ?_)))))));refine bQ ?_;refine⟨0,⟨by decide,eI hq.symm,rfl⟩,kf,?_⟩;rw[cC hq.symm];exact rd
  ·rw[if_neg (by simp at h;omega)] at hq
   have h9:i=9→c≤1:=by simp at h;omega
   obtain⟨b1,b2,b3⟩:=yj hi h9 hn;have hmin:min (7*(i:Int)).toNat IntKind.u64.bits=7*i:=by simp[IntKind.bits];omega
   refine Cd.skip (aN ?_);refine Zm ?_;refine Zm ?_;refine Zv (ah.zd (m:=127) 7 rfl rfl rfl rfl (by omega) (by omega)) ?_;refine Zm ?_;refine Zv (ah.pN rfl rfl rfl (by omega) (by omega)) ?_;refine Zv (ah.Af (r:=((c%128*2^(7*i):Nat):Int)) rfl rfl rfl (by omega) (by rw[hmin];exact xG b1)) ?_;refine Zv (ah.wI (a:=n) (b:=c%128*2^(7*i)) (r:=n+c%128*2^(7*i)) rfl rfl rfl b3 b1 (.inr (.inl ⟨rfl,by rw[Nat.or_comm,Nat.mul_comm (c%128),←Nat.two_pow_add_eq_or_of_lt hn,Nat.add_comm]⟩))) ?_;refine Za ?_;refine bU 0 3 4 5 6 12 29 (aN ?_);refine Zm ?_;refine jb ?_;refine db 0 3 4 5 6 12 29 40 (Zt ?_);refine Cd.aF rfl (fun hc=> ?_) (fun hc=> ?_)
   ·rw[if_pos (by omega)] at hq
    refine aw ?_;refine Zm ?_;refine Za ?_;refine eP 0 2 3 4 5 6 12 29 40 (Zt (Cd.ret (ai.au (ai.ar (ai.bL (ai.au ?_))))));refine bQ ?_;refine⟨_,⟨b2,jK hq.symm,rfl⟩,kf,?_⟩;rw[ed hq.symm];exact rd
   ·rw[if_neg (by omega)] at hq
    have hi8:i<9:=by omega
    refine Cd.skip (ai.av (jw ?_));refine Zm ?_;refine eS ?_;refine Za ?_;refine db 0 3 4 5 6 12 29 40 ?_;refine ai.round (i+1,n+c%128*2^(7*i),some r) ⟨rfl,rfl,rfl,trivial⟩ ⟨by simp only;omega,?_,hq,kf,rd⟩ (by simp only;omega);simp only;rw[zM];have hm:c%128≤127:=by omega
    have:=Nat.mul_le_mul_right (2^(7*i)) hm;omega
theorem hH (g:Nat)(o:Option (List Nat))(w:World)(h:Rd 146 w g o):Calls Tryz.prog 42 #[.pointer (some ⟨g,0,none⟩)] w fun e w'=>∃z:Nat,(z<9223372036854775808∧jR dx o z∧e= .returned (.int .i64 (z:Int)))∧Kf g w w'∧Rd 146 w' g (rest dx o):=by
 have rd:=h;have kf:=Kf.refl g w;have hsz:o.bind dx=(o.bind gP).bind fun x=>if x.1<9223372036854775808 then some x else none:=by cases o<;>rfl
 refine Zs 12 Tryz.func42 ?_;refine aw ?_;refine Za ?_;refine eh 0 2 (aN ?_);refine Zm ?_;refine Zc (Ze Tryz.func84) (lO g o _ rd) ?_;rintro e w1 ⟨z,⟨hz,hv,rfl⟩,fw1,rd'⟩;refine⟨_,rfl,?_⟩;replace kf:=kf.kf fw1 rd;replace rd:=rd';clear rd';refine Za ?_;refine bV 0 2 3 (bo (aw ?_));refine Zm ?_;refine qt ?_;refine bI 0 2 3 7 (Zt ?_);refine Cd.aF rfl (fun hc=> ?_) (fun hc=> ?_)
 ·have hn:o.bind dx=none:=by
   rw[hsz]
   cases hx:o.bind gP with
   |none=>rfl
   |some x=>
    have:=hv x.1 x.2 hx;show(if x.1<_ then _ else _)=_;rw[if_neg (by omega)]
  refine aw ?_;refine Zm ?_;refine Zc (Ze Tryz.func85) (jF g _ _ rd) ?_;rintro e w2 ⟨rfl,fw2,rd'⟩;refine⟨_,rfl,?_⟩;replace kf:=kf.kf fw2 rd;replace rd:=rd';clear rd';refine bI 0 2 3 7 (aN ?_);refine Za ?_;refine bI 0 2 3 7 (Zt (Cd.ret (ai.ar ?_)));refine bQ ?_;refine⟨0,⟨by decide,eI hn,rfl⟩,kf,?_⟩;rw[cC hn];exact rd
 ·have hr:rest dx o=rest gP o∧jR dx o z:=by
   cases hx:o.bind gP with
   |none=>rw[hx] at hsz;exact⟨by rw[cC hx,cC hsz],eI hsz⟩
   |some x=>
    obtain⟨m,r⟩:=x;have e:=hv m r hx;subst e;rw[hx] at hsz
    have hs2:o.bind dx=some (z,r):=by
     rw[hsz];show(if z<_ then _ else _)=_;rw[if_pos (by omega)]
    exact⟨by rw[ed hx,ed hs2],jK hs2⟩
  refine Cd.skip (aN ?_);refine Zm ?_;refine Zv (ah.fm rfl rfl Tryz.underlying94 Tryz.underlying3 (ji (by omega) (by omega))) ?_;refine Za ?_;refine bI 0 2 3 7 (Zt (Cd.ret ?_));refine bQ ?_;refine⟨z,⟨by omega,hr.2,rfl⟩,kf,?_⟩;rw[hr.1];exact rd
theorem ml (p q:Int)(w:World){P:Program}(hp:0≤p)(hp2:p<9223372036854775808)(hq:q=0∨q= -1):(Op.intBits .xor .i64 p q).run P w= .ok (.int .i64 (if q=0 then p else -p-1)) w:=by
 have e1:(BitVec.ofInt IntKind.i64.bits p).toNat=p.toNat:=by simp[IntKind.bits];omega
 have hx:IntKind.i64.wrap (((BitVec.ofInt IntKind.i64.bits p)^^^(BitVec.ofInt IntKind.i64.bits q)).toNat:Int)=if q=0 then p else -p-1:=by
  rcases hq with rfl|rfl
  ·have:BitVec.ofInt IntKind.i64.bits p^^^BitVec.ofInt IntKind.i64.bits 0=BitVec.ofInt IntKind.i64.bits p:=by simp
   rw[this,e1,if_pos rfl,IntKind.wrap_i64];omega
  ·have h1:BitVec.ofInt 64 (-1)=BitVec.allOnes 64:=by decide
   have e2:(BitVec.ofInt 64 p).toNat=p.toNat:=e1;show IntKind.i64.wrap (((BitVec.ofInt 64 p)^^^(BitVec.ofInt 64 (-1))).toNat:Int)=_;rw[h1,BitVec.xor_allOnes,BitVec.toNat_not,e2,if_neg (by decide),IntKind.wrap_i64];have:(2:Nat)^64=18446744073709551616:=rfl;rw[this];omega
 unfold Op.intBits;simp only[hx];rfl
theorem ri (g:Nat)(o:Option (List Nat))(w:World)(h:Rd 146 w g o):Calls Tryz.prog 44 #[.pointer (some ⟨g,0,none⟩)] w fun e w'=>∃z:Int,(bM z∧jR me o z∧e= .returned (.int .i64 z))∧Kf g w w'∧Rd 146 w' g (rest me o):=by
 have rd:=h;have kf:=Kf.refl g w;have hsz:o.bind me=(o.bind gP).map fun x=>(gy x.1,x.2):=by cases o<;>rfl
 refine Zs 14 Tryz.func44 ?_;refine aw ?_;refine Za ?_;refine eh 0 2 (aN ?_);refine Zm ?_;refine Zc (Ze Tryz.func84) (lO g o _ rd) ?_;rintro e w1 ⟨z,⟨hz,hv,rfl⟩,fw1,rd'⟩;refine⟨_,rfl,?_⟩;replace kf:=kf.kf fw1 rd;replace rd:=rd';clear rd'
 have hr:rest me o=rest gP o∧jR me o (gy z):=by
  cases hx:o.bind gP with
  |none=>
   rw[hx] at hsz;have hsz:o.bind me=none:=hsz;exact⟨by rw[cC hx,cC hsz],eI hsz⟩
  |some x=>
   obtain⟨m,r⟩:=x;have e:=hv m r hx;subst e;rw[hx] at hsz;have hs2:o.bind me=some (gy z,r):=hsz;exact⟨by rw[ed hx,ed hs2],jK hs2⟩
 have hm:z%2^1=z%2:=rfl
 have hun:gy z=if -((z%2:Nat):Int)=0 then((z/2:Nat):Int) else -((z/2:Nat):Int)-1:=by
  unfold gy
  by_cases h2:z%2=0
  ·rw[if_pos h2,if_pos (by omega)]
  ·rw[if_neg h2,if_neg (by omega)]
 refine Za ?_;refine bV 0 2 3 (aN ?_);refine Zm ?_;refine Zv (ah.zU rfl rfl rfl (s:=1) rfl (by omega)) ?_;refine Zv ((ah.fm rfl rfl Tryz.underlying94 Tryz.underlying2 (ji (by omega) (by omega))).cast (v':= .int .i64 ((z/2:Nat):Int)) rfl) ?_;refine Zm ?_;refine Zv (ah.zd (m:=1) 1 rfl rfl rfl rfl (by omega) (by omega)) ?_;refine Zv ((ah.fm rfl rfl Tryz.underlying94 Tryz.underlying2 (ji (by omega) (by omega))).cast (v':= .int .i64 ((z%2:Nat):Int)) rfl) ?_;refine Zv (ah.neg rfl rfl (r:= -((z%2:Nat):Int)) (by rw[IntKind.wrap_i64];omega)) ?_;refine Zv (ah.bin rfl rfl rfl rfl (ml _ _ _ (by omega) (by omega) (by omega))) ?_;rw[←hun];refine Za ?_;refine bV 0 2 3 (Zt (Cd.ret ?_));refine bQ ?_;refine⟨gy z,⟨(oL hz).2,hr.2,rfl⟩,kf,?_⟩;rw[hr.1];exact rd
theorem jD (g most:Nat)(o:Option (List Nat))(w:World)(h:Rd 146 w g o):Calls Tryz.prog 43 #[.pointer (some ⟨g,0,none⟩), .int .i64 (most:Int)] w fun e w'=>∃z:List Nat,(iV z∧jR (iY most) o z∧e= .returned (.string (strOf z)))∧Kf g w w'∧Rd 146 w' g (rest (iY most) o):=by
 have rd:=h;have kf:=Kf.refl g w;have hsz:o.bind (iY most)=(o.bind dx).bind fun x=>if x.1≤most then fa x.1 x.2 else none:=by cases o<;>rfl
 have hbyt:∀s,o=some s→iV s:=fun s e=>by
  obtain⟨s',b',-,hs',ho'⟩:=h;rw[e] at ho'
  cases b' with
  |true=>cases ho'
  |false=>injection ho' with ho';rw[ho'];exact hs'
 refine Zs 16 Tryz.func43 ?_;refine aw ?_;refine Za ?_;refine bV 0 1 4 (aN ?_);refine Zm ?_;refine Zc (Ze Tryz.func42) (hH g o _ rd) ?_;rintro e w1 ⟨z,⟨hz,hv,rfl⟩,fw1,rd'⟩;refine⟨_,rfl,?_⟩;replace kf:=kf.kf fw1 rd;replace rd:=rd';clear rd';refine Za ?_;refine bI 0 1 4 5 (Zt ?_);refine Cd.rr (σ:=Unit) (fun _=>[(0, .pointer (some ⟨g,0,none⟩)),(5, .int .i64 (z:Int))]) (fun _ wr=>Kf g w wr∧Rd 146 wr g (if z≤most then rest dx o else none)) ?_ ?_
 ·skip
  refine aw ?_;refine Zm ?_;refine Zm ?_;refine yN ?_;refine br 0 1 4 5 10 (Zt ?_);refine Cd.aF rfl (fun hc=> ?_) (fun hc=> ?_)
  ·skip
   refine Zr ?_;refine Zm ?_;refine Zc (Ze Tryz.func85) (jF g _ _ rd) ?_;rintro e w2 ⟨rfl,fw2,rd'⟩;refine⟨_,rfl,?_⟩;replace kf:=kf.kf fw2 rd;replace rd:=rd';clear rd';refine br 0 1 4 5 10 ?_;exact ai.join () ⟨rfl,rfl,trivial⟩ ⟨kf,by rw[if_neg (by omega)];exact rd⟩
  ·skip
   refine Cd.skip ?_;exact ai.join () ⟨rfl,rfl,trivial⟩ ⟨kf,by rw[if_pos (by omega)];exact rd⟩
 clear kf rd;rintro⟨⟩ wr ⟨kf,rd⟩;refine aw ?_;refine Zm ?_;refine Zm ?_;refine Zc (Ze Tryz.func86) (qT g z _ _ rd) ?_;rintro e w2 ⟨rfl,fw2,rd'⟩;refine⟨_,rfl,?_⟩;replace kf:=kf.kf fw2 rd;replace rd:=rd';clear rd';refine Za ?_;refine bV 0 4 5 (Zt (Cd.ret ?_));refine bQ ?_
 have hx:rest (fa z) (if z≤most then rest dx o else none)=rest (iY most) o∧∃t,t=qC z (if z≤most then rest dx o else none)∧iV t∧jR (iY most) o t:=by
  cases hs:o.bind dx with
  |none=>
   have e:(if z≤most then rest dx o else none)=none:=(by
    by_cases hz3:z≤most
    ·rw[if_pos hz3];exact cC hs
    ·rw[if_neg hz3])
   rw[hs] at hsz;have hsz:o.bind (iY most)=none:=hsz;rw[e];exact⟨by rw[cC hsz];rfl,[],rfl,(fun d hd=>by cases hd),eI hsz⟩
  |some x=>
   obtain⟨m,r⟩:=x;have e:=hv m r hs;subst e;rw[hs] at hsz;replace hsz:o.bind (iY most)=if z≤most then fa z r else none:=hsz
   have hbr:iV r:=by
    cases o with
    |none=>cases hs
    |some s=>exact iV.right (a:=gI z) ((du.sound s z r (hbyt s rfl) hs).2▸hbyt s rfl)
   by_cases hz2:z≤most
   ·rw[if_pos hz2] at hsz
    rw[if_pos hz2,ed hs]
    cases hr:fa z r with
    |none=>
     rw[hr] at hsz;refine⟨by rw[cC hsz];exact cC hr,[],?_,(fun d hd=>by cases hd),eI hsz⟩;show _=((fa z r).map Prod.fst).getD [];rw[hr];rfl
    |some y=>
     obtain⟨t,q⟩:=y;rw[hr] at hsz;refine⟨by rw[ed hsz];exact ed (o:=some r) hr,t,?_,?_,jK hsz⟩
     ·show _=((fa z r).map Prod.fst).getD []
      rw[hr];rfl
     ·unfold fa at hr
      split at hr
      ·injection hr with hr
       injection hr with hr _
       rw[←hr];exact hbr.take _
      ·cases hr
   ·rw[if_neg hz2] at hsz
    rw[if_neg hz2];exact⟨by rw[cC hsz];rfl,[],rfl,(fun d hd=>by cases hd),eI hsz⟩
 obtain⟨hx1,t,ht,hb,hv2⟩:=hx;refine⟨t,⟨hb,hv2,by rw[ht]⟩,kf,?_⟩;rw[←hx1];exact rd
theorem wQ (g:Nat)(o:Option (List Nat))(w:World)(h:Rd 146 w g o):Calls Tryz.prog 45 #[.pointer (some ⟨g,0,none⟩)] w fun e w'=>e= .returned (.bool (decide (o=some [])))∧Grow w w':=by
 have rd:=h;obtain⟨s,b,k0,hs,ho⟩:=h;have bel:=Below.refl w.heap.size w;refine Zs 13 Tryz.func45 ?_;refine aw ?_;refine Za ?_;refine eh 0 2 (aN ?_);refine Zm ?_;refine Zc (Ze Tryz.func87) (oE g o _ rd) ?_;rintro e w5 ⟨rfl,hb5⟩;refine⟨_,rfl,?_⟩;replace bel:=bel.step hb5;replace k0:=k0.step hb5;refine Zm ?_;refine aJ.start ?_;refine cF (fun hcx=>ah.move rfl rfl) ?_;refine Zn (fun hcx=>ah.nilCheck rfl rfl) ?_;refine Zn (fun hcx=>ah.aA 0 rfl rfl Tryz.underlying146 rfl (by kernel_rfl)) ?_;refine Zn (fun hcx=>ah.aB rfl rfl Tryz.underlying9 rfl k0 rfl) ?_;refine Zn (fun hcx=>ah.dY rfl rfl Tryz.underlying9) ?_;refine Zn (fun hcx=>ah.gU rfl rfl rfl) ?_;refine gD ?_;refine Za ?_;refine eh 0 2 (Zt (Cd.ret ?_));refine bQ ?_;refine⟨bW (aV ?_),bel⟩;subst ho
 cases b with
 |true=>rfl
 |false=>
  cases s with
  |nil=>rfl
  |cons c r=>simp;omega
theorem vG (s:List Nat)(w:World)(hs:iV s):Calls Tryz.prog 41 #[.string (strOf s)] w fun e w'=>∃g,e= .returned (.pointer (some ⟨g,0,none⟩))∧Grow w w'∧w.heap.size≤g∧Rd 146 w' g (some s):=by
 have bel:=Below.refl w.heap.size w
 have hb:∀W,(Instr.build 146 #[(0, .string (strOf s))]).run Tryz.prog W= .ok (.agg #[.string (strOf s), .bool false]) W:=fun W=>by
  have hu:=Tryz.underlying146
  go_simp
 refine Zs 6 Tryz.func41 ?_;refine aw ?_;refine Za ?_;refine eh 0 2 (aN ?_);refine Zm ?_;refine Zv (ah.build rfl rfl (hb _)) ?_;refine Seq.box rfl rfl rfl rfl rfl ?_;intro g5 w1 n5;have e5:=Nat.le_trans bel.size n5.ge;replace bel:=bel.step n5.below;have k5:=n5.aE;refine Za ?_;refine eh 0 2 (Zt (Cd.ret ?_));refine bQ ?_;exact⟨_,rfl,bel,e5,Rd.Ah k5 hs⟩
section
variable {T:TypeId} {g:Nat} {w w' w'':World} {o:Option (List Nat)}
end
def yo {α:Type}(x:α)(s:List Nat):Option (α × List Nat):=some (x,s)
def jS {α β:Type}(p:List Nat→Option (α × List Nat))(k:α→List Nat→Option (β × List Nat))(s:List Nat):Option (β × List Nat):=(p s).bind fun x=>k x.1 x.2
section
variable {α β:Type} {p:List Nat→Option (α × List Nat)} {k:α→List Nat→Option (β × List Nat)} {o:Option (List Nat)} {a:α}
theorem oJ (o:Option (List Nat)):o.bind (jS p k)=(o.bind p).bind fun x=>k x.1 x.2:=by cases o<;>rfl
theorem ec (h:jR p o a):rest (jS p k) o=rest (k a) (rest p o):=by
 unfold rest;rw[oJ]
 cases hx:o.bind p with
 |none=>rfl
 |some x=>
  obtain⟨b,r⟩:=x;have:=h b r hx;subst this;rfl
theorem eQ (h:jR p o a){b:β}(hb:jR (k a) (rest p o) b):jR (jS p k) o b:=by
 intro c r e;rw[oJ] at e
 cases hx:o.bind p with
 |none=>rw[hx] at e;cases e
 |some x=>
  obtain⟨d,q⟩:=x;have:=h d q hx;subst this;rw[hx] at e;refine hb c r ?_;unfold rest;rw[hx];exact e
theorem wi (x:α):jR (yo x) o x:=fun a r e=>by
 cases o with
 |none=>cases e
 |some s=>injection e with e;injection e
theorem uR (x:α):rest (yo x) o=o:=by cases o<;>rfl
end
theorem dZ {α β:Type}{p:List Nat→Option (α × List Nat)}{k:α→List Nat→Option (β × List Nat)}{enc:α→List Nat}{ok:α→Prop}(h:zw p enc ok){a:α}(ha:ok a)(t:List Nat):jS p k (enc a++t)=k a t:=by
 unfold jS;rw[h.full a t ha];rfl
theorem dy {α β:Type}{p:List Nat→Option (α × List Nat)}{k:α→List Nat→Option (β × List Nat)}{enc:α→List Nat}{ok:α→Prop}(h:zw p enc ok){s:List Nat}{b:β}{r:List Nat}(hs:iV s)(e:jS p k s=some (b,r)):∃a q,ok a∧s=enc a++q∧iV q∧k a q=some (b,r):=by
 unfold jS at e
 cases hx:p s with
 |none=>rw[hx] at e;cases e
 |some x=>
  obtain⟨a,q⟩:=x;rw[hx] at e;obtain⟨h1,h2⟩:=h.sound s a q hs hx;exact⟨a,q,h1,h2,iV.right (a:=enc a) (h2▸hs),e⟩
theorem yx {α:Type}{x y:α}{s r:List Nat}(h:yo x s=some (y,r)):x=y∧s=r:=by
 injection h with h
 injection h with h1 h2
 exact⟨h1,h2⟩
def gY (m M:Nat):List Nat→Option (fJ × List Nat):=jS dx fun k=>jS (iY m) fun id=>jS (iY m) fun a=>jS (iY m) fun b=>jS (iY M) fun t=>jS dx fun d=>jS dx fun p=>jS dx fun q=>jS me fun n=>yo ⟨k,id,a,b,t,d,p,q,n⟩
structure fJ.cap (m M:Nat)(e:fJ):Prop where
 kind:e.kind<9223372036854775808
 day:e.day<9223372036854775808
 at_:e.at_<9223372036854775808
 df:e.df<9223372036854775808
 n:bM e.n
 Au:e.id.length≤m
 la:e.a.length≤m
 lb:e.b.length≤m
 qZ:e.text.length≤M
theorem m0 (m M:Nat)(hm:m<9223372036854775808)(hM:M<9223372036854775808):zw (gY m M) fJ.bytes (fJ.cap m M) where
 full:=fun e r h=>by
  obtain⟨h1,h2,h3,h4,h5,h6,h7,h8,h9⟩:=h;unfold gY fJ.bytes;simp only[List.append_assoc];rw[dZ du h1,dZ (fo m hm) h6,dZ (fo m hm) h7,dZ (fo m hm) h8,dZ (fo M hM) h9,dZ du h2,dZ du h3,dZ du h4,dZ qL h5];rfl
 sound:=fun s e r hs h=>by
  unfold gY at h;obtain⟨z1,s1,a1,e1,b1,h⟩:=dy du hs h;obtain⟨z2,s2,a2,e2,b2,h⟩:=dy (fo m hm) b1 h;obtain⟨z3,s3,a3,e3,b3,h⟩:=dy (fo m hm) b2 h;obtain⟨z4,s4,a4,e4,b4,h⟩:=dy (fo m hm) b3 h;obtain⟨z5,s5,a5,e5,b5,h⟩:=dy (fo M hM) b4 h;obtain⟨z6,s6,a6,e6,b6,h⟩:=dy du b5 h;obtain⟨z7,s7,a7,e7,b7,h⟩:=dy du b6 h;obtain⟨z8,s8,a8,e8,b8,h⟩:=dy du b7 h;obtain⟨z9,s9,a9,e9,b9,h⟩:=dy qL b8 h;obtain⟨rfl,rfl⟩:=yx h;refine⟨⟨a1,a6,a7,a8,a9,a2,a3,a4,a5⟩,?_⟩;rw[e1,e2,e3,e4,e5,e6,e7,e8,e9];simp only[fJ.bytes,List.append_assoc]
def qd (m M:Nat)(s:List Nat):Option fJ:=match gY m M s with|some (e,[])=>if bX e.ev=true then some e else none|_=>none
def ya (o:Option fJ):Value:=match o with|some e=>e.ev.v|none=>(j4 0).v
theorem xV {m M:Nat}{s:List Nat}{z:fJ}{D:Option fJ}(hs:iV s)(hval:jR (gY m M) (some s) z)(hdd:D=match gY m M s with|some (e,[])=>if bX e.ev=true then some e else none|_=>none)(hm:m≤9223372036854775807:=by decide)(hM:M≤9223372036854775807:=by decide):
  (rest (gY m M) (some s)=some []→gY m M s=some (z,[]))∧(rest (gY m M) (some s)=some []→z.ev.qu)∧∀b:Bool,(rest (gY m M) (some s)=some []→b=bX z.ev)→(decide (rest (gY m M) (some s)=some [])&&b)=D.isSome∧(D.isSome=true→D=some z):=by
 have hin:rest (gY m M) (some s)=some []→gY m M s=some (z,[]):=fun h=>by
  unfold rest at h
  cases hx:(some s).bind (gY m M) with
  |none=>rw[hx] at h;cases h
  |some x=>
   obtain⟨a,r⟩:=x;have:=hval a r hx;rw[hx] at h;injection h with h
   have h:r=[]:=h;rw[this,←h];exact hx
 refine⟨hin,fun h=> ?_,fun b hb=> ?_⟩
 ·obtain⟨⟨c1,c2,c3,c4,c5,c6,c7,c8,c9⟩,hsb⟩:=(m0 m M (by omega) (by omega)).sound s z [] hs (hin h)
  rw[List.append_nil] at hsb;have hb:iV z.bytes:=hsb▸hs;have t1:iV z.id:=fun d hd=>hb d (by unfold fJ.bytes fA;simp[hd]);have t2:iV z.a:=fun d hd=>hb d (by unfold fJ.bytes fA;simp[hd]);have t3:iV z.b:=fun d hd=>hb d (by unfold fJ.bytes fA;simp[hd]);have t4:iV z.text:=fun d hd=>hb d (by unfold fJ.bytes fA;simp[hd]);exact⟨by unfold fJ.ev bM;dsimp only;omega,t1,t2,t3,t4,by unfold fJ.ev bM;dsimp only;omega,by unfold fJ.ev bM;dsimp only;omega,by unfold fJ.ev bM;dsimp only;omega,c5,by unfold fJ.ev;dsimp only;omega,by unfold fJ.ev;dsimp only;omega,by unfold fJ.ev;dsimp only;omega,by unfold fJ.ev;dsimp only;omega⟩
 ·by_cases h:rest (gY m M) (some s)=some []
  ·rw[hin h] at hdd
   rw[decide_eq_true h,hb h,hdd]
   cases hr:bX z.ev<;>simp[hr]
  ·have:D=none:=by
    rw[hdd];split
    ·rename_i e hx
     exfalso;apply h;unfold rest;show(Option.map Prod.snd (gY m M s))=_;rw[hx];rfl
    ·rfl
   rw[decide_eq_false h,this];simp
theorem od (a:Int)(w:World):(Instr.build 29 #[(0, .int .i64 a)]).run Tryz.prog w= .ok (.agg #[.int .i64 a, .string (strOf []), .string (strOf []), .string (strOf []), .string (strOf []), .int .i64 0, .int .i64 0, .int .i64 0, .int .i64 0]) w:=by kernel_rfl
theorem oh (w:World):(Instr.build 29 #[]).run Tryz.prog w= .ok (.agg #[.int .i64 0, .string (strOf []), .string (strOf []), .string (strOf []), .string (strOf []), .int .i64 0, .int .i64 0, .int .i64 0, .int .i64 0]) w:=by kernel_rfl
set_option maxHeartbeats 4000000 in
theorem oT (s:List Nat)(w:World)(hs:iV s):Calls Tryz.prog 15 #[.string (strOf s)] w fun en w'=>en= .returned (.tuple #[ya (qd 16 4000 s), .int .i64 (if(qd 16 4000 s).isSome=true then 0 else 3)])∧Grow w w':=by
 have bel:=Below.refl w.heap.size w;have hdd:qd 16 4000 s=match gY 16 4000 s with|some (e,[])=>if bX e.ev=true then some e else none|_=>none:=rfl
 generalize qd 16 4000 s=D at *
 refine Zs 45 Tryz.func15 ?_;refine aw ?_;refine Zl de ?_;intro g2 w1 n2;have e2:=Nat.le_trans bel.size n2.ge;replace bel:=bel.step n2.below;have k2:=n2.aE;refine Za ?_;refine bV 0 2 3 (aN ?_);refine Zm ?_;refine Zc (Ze Tryz.func41) (vG s _ hs) ?_;rintro en w5 ⟨g,rfl,hb5,hg,rd⟩;refine⟨_,rfl,?_⟩;replace bel:=bel.step hb5;replace k2:=k2.step hb5;have hgB:w.heap.size≤g:=by have:=e2;have:=k2.lt;have:=n2.below.size;omega
 have belr:=bel;have hgl:=rd.lt;have kf:=Kf.refl g w5;refine Za ?_;refine bI 0 2 3 4 (aN ?_);refine Zm ?_;refine Zc (Ze Tryz.func42) (hH g _ _ rd) ?_;rintro e w2 ⟨z1,⟨hz1,hv1,rfl⟩,fw2,rd'⟩;refine⟨_,rfl,?_⟩;replace k2:=k2.kf fw2 rd;replace kf:=kf.kf fw2 rd;replace rd:=rd';clear rd';refine Zv (ah.build rfl rfl (od _ _)) ?_;refine Zl de ?_;intro g5 w3 n5;have e5:=Nat.le_trans kf.size n5.ge;have l5:=Nat.lt_of_lt_of_le k2.lt n5.ge;replace k2:=k2.step n5.below;replace kf:=kf.step n5.below;replace rd:=rd.step n5.below;have k5:=n5.aE;refine Zo 9 k5 ?_;intro w4 pw4;replace k2:=k2.put pw4 (by omega);replace kf:=kf.put k5 pw4 e5;replace rd:=rd.put k5 pw4 e5;replace k5:=pw4.aE;refine br 0 2 3 4 5 (aN ?_);refine Zm ?_;replace k5:aQ _ g5 29 #[.int .i64 (z1:Int), .string (strOf []), .string (strOf []), .string (strOf []), .string (strOf []), .int .i64 0, .int .i64 0, .int .i64 0, .int .i64 0]:=k5;refine Zc (Ze Tryz.func43) (jD g 16 _ _ rd) ?_;rintro e w5 ⟨z2,⟨hz2,hv2,rfl⟩,fw5,rd'⟩;refine⟨_,rfl,?_⟩;replace k2:=k2.kf fw5 rd;replace kf:=kf.kf fw5 rd;replace k5:=k5.kf fw5 rd;replace rd:=rd';clear rd';refine Zf 1 Tryz.underlying29 ?_;refine Zq k5 ?_;intro w6 pw6;replace k2:=k2.put pw6 (by omega);replace kf:=kf.put k5 pw6 e5;replace rd:=rd.put k5 pw6 e5;replace k5:=pw6.aE;refine br 0 2 3 4 5 (aN ?_);refine Zm ?_;replace k5:aQ _ g5 29 #[.int .i64 (z1:Int), .string (strOf z2), .string (strOf []), .string (strOf []), .string (strOf []), .int .i64 0, .int .i64 0, .int .i64 0, .int .i64 0]:=k5;refine Zc (Ze Tryz.func43) (jD g 16 _ _ rd) ?_;rintro e w7 ⟨z3,⟨hz3,hv3,rfl⟩,fw7,rd'⟩;refine⟨_,rfl,?_⟩;replace k2:=k2.kf fw7 rd;replace kf:=kf.kf fw7 rd;replace k5:=k5.kf fw7 rd;replace rd:=rd';clear rd';refine Zf 2 Tryz.underlying29 ?_;refine Zq k5 ?_;intro w8 pw8;replace k2:=k2.put pw8 (by omega);replace kf:=kf.put k5 pw8 e5;replace rd:=rd.put k5 pw8 e5;replace k5:=pw8.aE;refine br 0 2 3 4 5 (aN ?_);refine Zm ?_;replace k5:aQ _ g5 29 #[.int .i64 (z1:Int), .string (strOf z2), .string (strOf z3), .string (strOf []), .string (strOf []), .int .i64 0, .int .i64 0, .int .i64 0, .int .i64 0]:=k5;refine Zc (Ze Tryz.func43) (jD g 16 _ _ rd) ?_;rintro e w9 ⟨z4,⟨hz4,hv4,rfl⟩,fw9,rd'⟩;refine⟨_,rfl,?_⟩;replace k2:=k2.kf fw9 rd;replace kf:=kf.kf fw9 rd;replace k5:=k5.kf fw9 rd;replace rd:=rd';clear rd';refine Zf 3 Tryz.underlying29 ?_;refine Zq k5 ?_;intro w10 pw10;replace k2:=k2.put pw10 (by omega);replace kf:=kf.put k5 pw10 e5;replace rd:=rd.put k5 pw10 e5;replace k5:=pw10.aE;refine br 0 2 3 4 5 (aN ?_);refine Zm ?_;replace k5:aQ _ g5 29 #[.int .i64 (z1:Int), .string (strOf z2), .string (strOf z3), .string (strOf z4), .string (strOf []), .int .i64 0, .int .i64 0, .int .i64 0, .int .i64 0]:=k5;refine Zc (Ze Tryz.func43) (jD g 4000 _ _ rd) ?_;rintro e w11 ⟨z5,⟨hz5,hv5,rfl⟩,fw11,rd'⟩;refine⟨_,rfl,?_⟩;replace k2:=k2.kf fw11 rd;replace kf:=kf.kf fw11 rd;replace k5:=k5.kf fw11 rd;replace rd:=rd';clear rd';refine Zf 4 Tryz.underlying29 ?_;refine Zq k5 ?_;intro w12 pw12;replace k2:=k2.put pw12 (by omega);replace kf:=kf.put k5 pw12 e5;replace rd:=rd.put k5 pw12 e5;replace k5:=pw12.aE;refine br 0 2 3 4 5 (aN ?_);refine Zm ?_;replace k5:aQ _ g5 29 #[.int .i64 (z1:Int), .string (strOf z2), .string (strOf z3), .string (strOf z4), .string (strOf z5), .int .i64 0, .int .i64 0, .int .i64 0, .int .i64 0]:=k5;refine Zc (Ze Tryz.func42) (hH g _ _ rd) ?_;rintro e w13 ⟨z6,⟨hz6,hv6,rfl⟩,fw13,rd'⟩;refine⟨_,rfl,?_⟩;replace k2:=k2.kf fw13 rd;replace kf:=kf.kf fw13 rd;replace k5:=k5.kf fw13 rd;replace rd:=rd';clear rd';refine Zf 5 Tryz.underlying29 ?_;refine Zq k5 ?_;intro w14 pw14;replace k2:=k2.put pw14 (by omega);replace kf:=kf.put k5 pw14 e5;replace rd:=rd.put k5 pw14 e5;replace k5:=pw14.aE;refine br 0 2 3 4 5 (aN ?_);refine Zm ?_;replace k5:aQ _ g5 29 #[.int .i64 (z1:Int), .string (strOf z2), .string (strOf z3), .string (strOf z4), .string (strOf z5), .int .i64 (z6:Int), .int .i64 0, .int .i64 0, .int .i64 0]:=k5;refine Zc (Ze Tryz.func42) (hH g _ _ rd) ?_;rintro e w15 ⟨z7,⟨hz7,hv7,rfl⟩,fw15,rd'⟩;refine⟨_,rfl,?_⟩;replace k2:=k2.kf fw15 rd;replace kf:=kf.kf fw15 rd;replace k5:=k5.kf fw15 rd;replace rd:=rd';clear rd';refine Zf 6 Tryz.underlying29 ?_;refine Zq k5 ?_;intro w16 pw16;replace k2:=k2.put pw16 (by omega);replace kf:=kf.put k5 pw16 e5;replace rd:=rd.put k5 pw16 e5;replace k5:=pw16.aE;refine br 0 2 3 4 5 (aN ?_);refine Zm ?_;replace k5:aQ _ g5 29 #[.int .i64 (z1:Int), .string (strOf z2), .string (strOf z3), .string (strOf z4), .string (strOf z5), .int .i64 (z6:Int), .int .i64 (z7:Int), .int .i64 0, .int .i64 0]:=k5;refine Zc (Ze Tryz.func42) (hH g _ _ rd) ?_;rintro e w17 ⟨z8,⟨hz8,hv8,rfl⟩,fw17,rd'⟩;refine⟨_,rfl,?_⟩;replace k2:=k2.kf fw17 rd;replace kf:=kf.kf fw17 rd;replace k5:=k5.kf fw17 rd;replace rd:=rd';clear rd';refine Zf 7 Tryz.underlying29 ?_;refine Zq k5 ?_;intro w18 pw18;replace k2:=k2.put pw18 (by omega);replace kf:=kf.put k5 pw18 e5;replace rd:=rd.put k5 pw18 e5;replace k5:=pw18.aE;refine br 0 2 3 4 5 (aN ?_);refine Zm ?_;replace k5:aQ _ g5 29 #[.int .i64 (z1:Int), .string (strOf z2), .string (strOf z3), .string (strOf z4), .string (strOf z5), .int .i64 (z6:Int), .int .i64 (z7:Int), .int .i64 (z8:Int), .int .i64 0]:=k5;refine Zc (Ze Tryz.func44) (ri g _ _ rd) ?_;rintro e w19 ⟨z9,⟨hz9,hv9,rfl⟩,fw19,rd'⟩;refine⟨_,rfl,?_⟩;replace k2:=k2.kf fw19 rd;replace kf:=kf.kf fw19 rd;replace k5:=k5.kf fw19 rd;replace rd:=rd';clear rd';refine Zf 8 Tryz.underlying29 ?_;refine Zq k5 ?_;intro w20 pw20;replace k2:=k2.put pw20 (by omega);replace kf:=kf.put k5 pw20 e5;replace rd:=rd.put k5 pw20 e5;replace k5:=pw20.aE;refine br 0 2 3 4 5 (bo (aw ?_));refine Zm ?_;replace k5:aQ _ g5 29 #[.int .i64 (z1:Int), .string (strOf z2), .string (strOf z3), .string (strOf z4), .string (strOf z5), .int .i64 (z6:Int), .int .i64 (z7:Int), .int .i64 (z8:Int), .int .i64 z9]:=k5;have hval:jR (gY 16 4000) (some s) ⟨z1,z2,z3,z4,z5,z6,z7,z8,z9⟩:=eQ hv1 (eQ hv2 (eQ hv3 (eQ hv4 (eQ hv5 (eQ hv6 (eQ hv7 (eQ hv8 (eQ hv9 (wi _)))))))))
 have hrest:rest (gY 16 4000) (some s)=rest me (rest dx (rest dx (rest dx (rest (iY 4000) (rest (iY 16) (rest (iY 16) (rest (iY 16) (rest dx (some s))))))))):=by
  unfold gY;rw[ec hv1,ec hv2,ec hv3,ec hv4,ec hv5,ec hv6,ec hv7,ec hv8,ec hv9,uR]
 rw[←hrest] at rd;obtain⟨z,hz⟩:∃z:fJ,z=⟨z1,z2,z3,z4,z5,z6,z7,z8,z9⟩:=⟨_,rfl⟩;rw[←hz] at hval;obtain⟨hin,hrng,hDs⟩:=xV hs hval hdd;have hri:=fun W h=>kC z.ev (hrng h) W;have hzv:z.ev.v= .agg #[.int .i64 (z1:Int), .string (strOf z2), .string (strOf z3), .string (strOf z4), .string (strOf z5), .int .i64 (z6:Int), .int .i64 (z7:Int), .int .i64 (z8:Int), .int .i64 z9]:=by rw[hz];rfl
 rw[hzv] at hri;refine Zc (Ze Tryz.func45) (wQ g _ _ rd) ?_;rintro en w20 ⟨rfl,hb20⟩;refine⟨_,rfl,?_⟩;replace k2:=k2.step hb20;replace kf:=kf.step hb20;replace rd:=rd.step hb20;replace k5:=k5.step hb20;refine mn ?_;refine Zm ?_;refine aJ.start ?_;refine cF (fun hcx=>ah.fp rfl rfl Tryz.underlying29 rfl k5 (m:=9) (by kernel_rfl) rfl) ?_;refine aJ.da rfl rfl rfl rfl rfl rfl rfl (fun hcx=>Ze Tryz.func13) (fun hcx=>hri _ (by simpa[bY] using hcx)) ?_;intro w21 hw21;replace k2:=k2.step hw21;replace kf:=kf.step hw21;replace rd:=rd.step hw21;replace k5:=k5.step hw21;refine Zn (fun hcx=>ah.not rfl rfl) ?_;refine gS ?_;refine cg 0 2 3 4 5 42 (Zt ?_);obtain⟨d1,d2⟩:=hDs (bX z.ev) (fun _=>rfl);have bel:=belr.trans (kf.to hgB (by have:=hgl;omega));have e2':w.heap.size≤g2:=e2;refine Cd.cond rfl (fun h=> ?_) (fun h=> ?_)
 ·have hD:D=none:=by
   cases hD:D with
   |none=>rfl
   |some x=>
    rw[hD] at d1;simp at d1 h;rw[d1.1,d1.2] at h;simp at h
  subst hD;refine aw ?_;refine Zv (ah.build rfl rfl (oh _)) ?_;refine Zo 9 k2 ?_;intro w22 pw22;replace k5:=k5.put pw22 (by omega);replace bel:=bel.put k2 pw22 e2;replace k2:=pw22.aE;refine Za ?_;refine cg 0 2 3 4 5 42 (Zt (Cd.ret (ai.ar ?_)));refine ai.iI rfl rfl rfl k2 Tryz.underlying29 rfl (m:=9) (by kernel_rfl) rfl (.inl rfl) ?_;exact⟨rfl,bel⟩
 ·have hD:D=some z:=by
   apply d2;rw[←d1];simp at h⊢;exact h
  subst hD;refine Cd.skip (aN ?_);refine ZW 9 Tryz.underlying29 k5 ?_;refine Zo 9 k2 ?_;intro w22 pw22;replace k5:=k5.put pw22 (by omega);replace bel:=bel.put k2 pw22 e2;replace k2:=pw22.aE;refine Za ?_;refine cg 0 2 3 4 5 42 (Zt (Cd.ret ?_));refine ai.iI rfl rfl rfl k2 Tryz.underlying29 rfl (m:=9) (by kernel_rfl) rfl (.inl rfl) ?_;exact⟨by rw[show ya (some z)=z.ev.v from rfl,hzv];rfl,bel⟩
def qg (e:Ev):Bool:=decide (100<e.id.length)||decide (100<e.a.length)||decide (100<e.b.length)||decide (4100<e.text.length)
theorem xH (e:Ev)(w:World):Calls Tryz.prog 9 #[e.v] w fun en w'=>en= .returned (.bool (qg e))∧Grow w w':=by
 have bel:=Below.refl w.heap.size w;unfold Ev.v;refine Zs 25 Tryz.func9 ?_;refine aw ?_;refine Seq.box rfl rfl rfl rfl rfl ?_;intro g1 w1 n1;have e1:=Nat.le_trans bel.size n1.ge;replace bel:=bel.step n1.below;have k1:=n1.aE;refine Za ?_;refine bV 0 1 2 (aN ?_);refine Zf 1 Tryz.underlying23 ?_;refine ZL Tryz.underlying9 k1 ?_;refine Zv (ah.dY rfl rfl Tryz.underlying9) ?_;refine yN ?_;refine Zm ?_;refine aJ.start ?_;refine cF (fun hcx=>ah.aA 2 rfl rfl Tryz.underlying23 rfl (by kernel_rfl)) ?_;refine Zn (fun hcx=>ah.aB rfl rfl Tryz.underlying9 rfl k1 rfl) ?_;refine Zn (fun hcx=>ah.dY rfl rfl Tryz.underlying9) ?_;refine Zn (fun hcx=>ah.gtr rfl rfl rfl) ?_;refine gS ?_;refine Zm ?_;refine aJ.start ?_;refine cF (fun hcx=>ah.aA 3 rfl rfl Tryz.underlying23 rfl (by kernel_rfl)) ?_;refine Zn (fun hcx=>ah.aB rfl rfl Tryz.underlying9 rfl k1 rfl) ?_;refine Zn (fun hcx=>ah.dY rfl rfl Tryz.underlying9) ?_;refine Zn (fun hcx=>ah.gtr rfl rfl rfl) ?_;refine gS ?_;refine Zm ?_;refine aJ.start ?_;refine cF (fun hcx=>ah.aA 4 rfl rfl Tryz.underlying23 rfl (by kernel_rfl)) ?_;refine Zn (fun hcx=>ah.aB rfl rfl Tryz.underlying9 rfl k1 rfl) ?_;refine Zn (fun hcx=>ah.dY rfl rfl Tryz.underlying9) ?_;refine Zn (fun hcx=>ah.gtr rfl rfl rfl) ?_;refine gS ?_;refine Za ?_;refine bV 0 1 2 (Zt (Cd.ret ?_));refine bQ ?_;refine⟨bW (aV ?_),bel⟩;unfold qg;rw[Bool.eq_iff_iff];simp;omega
theorem uB {e:Ev}(he:e.qu)(hr:bX e=true)(hg:qg e=false):∃n:fJ,e=n.ev∧n.fit:=by
 obtain⟨a1,a2,a3,a4,a5,a6,a7,a8,a9,-,-,-,-⟩:=he;unfold bX at hr;unfold qg at hg;simp only[Bool.and_eq_true,Bool.or_eq_true,decide_eq_true_eq] at hr;simp only[Bool.or_eq_false_iff,decide_eq_false_iff_not] at hg;obtain⟨⟨⟨⟨⟨⟨c1,c2⟩,-⟩,-⟩,-⟩,c3,c4⟩,⟨c5,c6⟩,c7⟩:=hr;obtain⟨kd,id,a,b,text,day,at_,df,n⟩:=e;dsimp only at *;refine⟨⟨kd.toNat,id,a,b,text,day.toNat,at_.toNat,df.toNat,n⟩,?_,?_⟩
 ·unfold fJ.ev
  dsimp only;rw[Int.toNat_of_nonneg (by omega),Int.toNat_of_nonneg (by omega),Int.toNat_of_nonneg (by omega),Int.toNat_of_nonneg (by omega)]
 ·constructor<;>dsimp only<;>first|omega|assumption
def uy:fJ:=⟨2,[],[],[],[],5,0,0,0⟩
def xS:Ev:=⟨7,[99],[],[],[],0,0,0,0⟩
theorem wB:uy.ev.qu:=by
 have hn:∀x∈([]:List Nat),x<256:=fun x h=>by cases h
 constructor<;>first|exact hn|(unfold bM;decide)|decide
theorem xa:xS.qu:=by
 have hn:∀x∈([]:List Nat),x<256:=fun x h=>by cases h
 constructor<;>first|exact hn|(unfold bM;decide)|decide
theorem wW:uy.fit:=by
 constructor<;>first|(unfold bM;decide)|decide
theorem tc:bX uy.ev=true:=by decide+kernel
theorem sM:bX xS=true:=by decide+kernel
theorem sd:uy.bytes=[2,0,0,0,0,5,0,0,0]:=by decide+kernel
theorem nc (w:World):(Instr.build 29 #[(0, .int .i64 2),(5, .int .i64 5)]).run Tryz.prog w= .ok uy.ev.v w:=by kernel_rfl
theorem mJ (w:World):(Instr.build 29 #[(0, .int .i64 7),(1, .string {data:= #[99]})]).run Tryz.prog w= .ok xS.v w:=by kernel_rfl
theorem jj (w:World):Calls Tryz.prog 10 #[] w fun e w'=>e= .returned (.bool true)∧Grow w w':=by
 have bel:=Below.refl w.heap.size w;have h1:=fun W=>oV uy wW wB tc W;have h2:=fun W=>kC xS xa W;rw[sd] at h1;rw[sM] at h2;refine Zs 18 Tryz.func10 ?_;refine aw ?_;refine Za ?_;refine zE 0 (aN ?_);refine Zv (ah.build rfl rfl (nc _)) ?_;refine Zc (Ze Tryz.func12) (h1 _) ?_;rintro en w5 ⟨rfl,hb5⟩;refine⟨_,rfl,?_⟩;replace bel:=bel.step hb5;refine Zm ?_;refine Zx ?_;refine Zx ?_;refine Za ?_;refine Za ?_;refine bV 0 1 2 (aN ?_);refine Zm ?_;refine bF ?_;refine Zm ?_;refine aJ.start ?_;refine cF (fun hcx=>ah.move rfl rfl) ?_;refine Zn (fun hcx=>ah.dM (a:=[2,0,0,0,0,5,0,0,0]) (b:=[2,0,0,0,0,5,0,0,0]) rfl rfl rfl (by decide) (by decide)) ?_;refine gD ?_;refine Zm ?_;refine aJ.start ?_;refine cF (fun hcx=>ah.build rfl rfl (mJ _)) ?_;refine aJ.da rfl rfl rfl rfl rfl rfl rfl (fun hcx=>Ze Tryz.func13) (fun hcx=>h2 _) ?_;intro w1 hw1;replace bel:=bel.step hw1;refine gD ?_;refine Za ?_;refine bV 0 1 2 (Zt (Cd.ret ?_));refine bQ ?_;exact⟨bW (aV (by decide)),bel⟩
theorem fJ.AO (e:fJ)(hf:e.fit)(he:e.ev.qu):∀x∈e.bytes,x<256:=by
 obtain⟨h1,h2,h3,h4,h5,l1,l2,l3,l4⟩:=hf;have hg:∀ {n:Nat},n<9223372036854775808→∀x∈gI n,x<256:=fun h=>vU (by omega)
 have ht:∀ {s:List Nat},(∀x∈s,x<256)→s.length≤10000→∀x∈fA s,x<256:=fun h hl x hx=>by
  unfold fA at hx;rcases List.mem_append.1 hx with hx|hx
  ·exact hg (by omega) x hx
  ·exact h x hx
 intro x hx;unfold fJ.bytes at hx;simp only[List.mem_append] at hx;rcases hx with (((((((hx|hx)|hx)|hx)|hx)|hx)|hx)|hx)|hx
 ·exact hg h1 x hx
 ·exact ht he.id l1 x hx
 ·exact ht he.a l2 x hx
 ·exact ht he.b l3 x hx
 ·exact ht he.text l4 x hx
 ·exact hg h2 x hx
 ·exact hg h3 x hx
 ·exact hg h4 x hx
 ·exact vU (sK h5) x hx
theorem mE {l:List Nat}(h:eR l=true):l.length≤16:=by
 unfold eR at h;simp only[Bool.and_eq_true,decide_eq_true_eq] at h;exact h.1.1.2
theorem sZ {l:List Nat}(h:fU l=true):l.length≤4000:=by
 unfold fU at h;simp only[Bool.and_eq_true,decide_eq_true_eq] at h;exact(pB h.1).2
theorem ub {e:Ev}(h:bX e=true):e.id.length≤16∧e.a.length≤16∧e.b.length≤16∧e.text.length≤4000:=by
 have h1:=fun h=>mE (l:=e.id) h;have h2:=fun h=>mE (l:=e.a) h;have h3:=fun h=>mE (l:=e.b) h;have h4:=fun h=>sZ (l:=e.text) h;obtain⟨kd,id,a,b,text,day,at_,df,n⟩:=e;dsimp only at *
 have hk:kd=1∨kd=2∨kd=3∨kd=4∨kd=5∨kd=6∨kd=7:=by
  unfold bX at h;simp only[Bool.and_eq_true,decide_eq_true_eq] at h;omega
 rcases hk with rfl|rfl|rfl|rfl|rfl|rfl|rfl<;>simp[bX,gG,j4,lg] at h<;>grind
theorem qX {m M:Nat}{s:List Nat}{e:fJ}(hs:iV s)(hm:m<9223372036854775808)(hM:M<9223372036854775808):qd m M s=some e↔e.cap m M∧s=e.bytes∧bX e.ev=true:=by
 have hc:=m0 m M hm hM;unfold qd
 constructor
 ·intro h
  split at h
  ·rename_i x hx
   split at h
   ·rename_i hr
    injection h with h
    subst h;obtain⟨h1,h2⟩:=hc.sound s x [] hs hx;exact⟨h1,by rw[h2,List.append_nil],hr⟩
   ·cases h
  ·cases h
 ·rintro⟨h1,rfl,h3⟩
  have:=hc.full e [] h1;rw[List.append_nil] at this;rw[this];simp[h3]
theorem fJ.cap.of {e:fJ}{m M m' M':Nat}(h:e.cap m M)(hr:bX e.ev=true)(hm:16≤m')(hM:4000≤M'):e.cap m' M':=by
 obtain⟨c1,c2,c3,c4⟩:=ub hr;have c1:e.id.length≤16:=c1;have c2:e.a.length≤16:=c2;have c3:e.b.length≤16:=c3;have c4:e.text.length≤4000:=c4;exact⟨h.kind,h.day,h.at_,h.df,h.n,by omega,by omega,by omega,by omega⟩
set_option maxRecDepth 100000 in
theorem qE (a:Ev)(w:World):(binOp .eql 29 a.v a.v).run Tryz.prog w= .ok (.bool true) w:=by
 have hu:=Tryz.underlying29;unfold Ev.v
 go_simp
theorem uP {e:fJ}(hf:e.fit)(he:e.ev.qu)(hr:bX e.ev=true):qd 16 4000 e.bytes=some e:=by
 refine(qX (e.AO hf he) (by omega) (by omega)).2 ⟨?_,rfl,hr⟩;exact fJ.cap.of (m:=10000) (M:=10000) ⟨hf.kind,hf.day,hf.at_,hf.df,hf.n,hf.Au,hf.la,hf.lb,hf.qZ⟩ hr (by omega) (by omega)
theorem xB {e:fJ}(hf:e.fit)(he:e.ev.qu)(hr:bX e.ev=true){k:Nat}(hk:k<e.bytes.length):qd 16 4000 (e.bytes.take k)=none:=by
 have hb:=e.AO hf he;have hc:=m0 16 4000 (by omega) (by omega)
 cases h:qd 16 4000 (e.bytes.take k) with
 |none=>rfl
 |some x=>
  exfalso;obtain⟨h1,h2,-⟩:=(qX (iV.take hb k) (by omega) (by omega)).1 h;have hcap:e.cap 16 4000:=fJ.cap.of (m:=10000) (M:=10000) ⟨hf.kind,hf.day,hf.at_,hf.df,hf.n,hf.Au,hf.la,hf.lb,hf.qZ⟩ hr (by omega) (by omega);have f1:=hc.full e [] hcap;have f2:=hc.full x (e.bytes.drop k) h1;rw[←h2,List.take_append_drop] at f2;rw[List.append_nil,f2] at f1;injection f1 with f1
  injection f1 with _ f1
  have:=congrArg List.length f1;rw[List.length_drop] at this;simp at this;omega
theorem vo (e:fJ):0<e.bytes.length:=by
 unfold fJ.bytes;simp only[List.length_append]
 have:0<(gI e.kind).length:=by
  unfold gI iz;split<;>simp
 omega
theorem rP (e:Ev)(he:e.qu)(kk:Int)(hkk:bM kk)(w:World):Calls Tryz.prog 5 #[e.v, .int .i64 kk] w fun en w'=>en= .returned (.bool true)∧Below w.heap.size w w':=by
 have bel:=Below.refl w.heap.size w;have hgr:=fun W=>xH e W;have heq:=fun W=>qE e W;unfold Ev.v at hgr heq⊢;refine Zs 63 Tryz.func5 ?_;refine aw ?_;refine Seq.box rfl rfl rfl rfl rfl ?_;intro g2 w1 n2;have e2:=Nat.le_trans bel.size n2.ge;replace bel:=bel.step n2.below;have k2:=n2.aE;refine Za ?_;refine bI 0 1 2 4 (bo (aw ?_));refine ZW 9 Tryz.underlying23 k2 ?_;refine Zc (Ze Tryz.func9) (hgr _) ?_;rintro en w5 ⟨rfl,hb5⟩;refine⟨_,rfl,?_⟩;replace bel:=bel.step hb5;replace k2:=k2.step hb5;refine br 0 1 2 4 12 (Zt ?_);refine Cd.cond rfl (fun hg=> ?_) (fun hg=> ?_)
 ·skip
  refine aw ?_;refine Zc (Ze Tryz.func10) (jj _) ?_;rintro en w6 ⟨rfl,hb6⟩;refine⟨_,rfl,?_⟩;replace bel:=bel.step hb6;replace k2:=k2.step hb6;refine Za ?_;refine br 0 1 2 4 12 (Zt (Cd.ret (ai.ar ?_)));refine bQ ?_;exact⟨rfl,bel⟩
 refine Cd.skip (aN ?_);refine ZW 9 Tryz.underlying23 k2 ?_
 cases hR:bX e with
 |false=>
  have hen:=fun W=>om e he hR W;unfold Ev.v at hen;refine Zc (Ze Tryz.func12) (hen _) ?_;rintro en w8 ⟨rfl,hb8⟩;refine⟨_,rfl,?_⟩;replace bel:=bel.step hb8;replace k2:=k2.step hb8;refine Zm ?_;refine Zx ?_;refine Zx ?_;refine Za ?_;refine Za ?_;refine bU 0 1 2 4 5 6 12 (bo (aw ?_));refine Zm ?_;refine po ?_;refine Zm ?_;refine aJ.start ?_;refine cF (fun hcx=>ah.move rfl rfl) ?_;refine Zn (fun hcx=>ah.dY rfl rfl Tryz.underlying9) ?_;refine Zn (fun hcx=>ah.gU rfl rfl rfl) ?_;refine gS ?_;refine db 0 1 2 4 5 6 12 25 (Zt ?_);refine Cd.bb rfl (by decide) ?_;refine aw ?_;refine Zm ?_;refine po ?_;refine Zm ?_;refine aJ.start ?_;refine aJ.zh rfl rfl rfl rfl rfl rfl rfl (fun hcx=>Ze Tryz.func10) (fun hcx=>jj _) ?_;intro w2 hw2;replace bel:=bel.step hw2;replace k2:=k2.step hw2;refine gD ?_;refine Za ?_;refine db 0 1 2 4 5 6 12 25 (Zt (Cd.ret (ai.ar ?_)));refine bQ ?_;exact⟨bW (aV (by decide)),bel⟩
 |true=>
  obtain⟨n,hn,hf⟩:=uB he hR hg;rw[hn] at hR he;have hen:=fun W=>oV n hf he hR W;have hbb:=n.AO hf he;have hd1:=fun W=>oT n.bytes W hbb;rw[uP hf he hR] at hd1;obtain⟨u,hu⟩:∃u:Nat,kk%18446744073709551616=(u:Int):=⟨(kk%18446744073709551616).toNat,by omega⟩;obtain⟨m,hm⟩:∃m,m=u%n.bytes.length:=⟨_,rfl⟩;have hpos:=vo n;have hml:m<n.bytes.length:=by rw[hm];exact Nat.mod_lt _ hpos
  have hd2:=fun W=>oT (n.bytes.take m) W (iV.take hbb m);rw[xB hf he hR hml] at hd2
  have hlen:n.bytes.length≤1000000:=by
   have q1:=eu n.kind;have q2:=gn n.id;have q3:=gn n.a;have q4:=gn n.b;have q5:=gn n.text;have q6:=eu n.day;have q7:=eu n.at_;have q8:=eu n.df;have q9:=eu (jT n.n);obtain⟨-,-,-,-,-,l1,l2,l3,l4⟩:=hf;unfold fJ.bytes;simp only[List.length_append];omega
  have hv1:ya (some n)=e.v:=by rw[hn];rfl
  have hv2:ya none=(j4 0).v:=rfl;rw[hv1] at hd1;rw[hv2] at hd2;rw[←hn] at hen;unfold Ev.v at hen hd1 hd2;refine Zc (Ze Tryz.func12) (hen _) ?_;rintro en w8 ⟨rfl,hb8⟩;refine⟨_,rfl,?_⟩;replace bel:=bel.step hb8;replace k2:=k2.step hb8;refine Zm ?_;refine Zx ?_;refine Zx ?_;refine Za ?_;refine Za ?_;refine bU 0 1 2 4 5 6 12 (bo (aw ?_));refine Zm ?_;refine po ?_;refine Zm ?_;refine aJ.start ?_;refine cF (fun hcx=>ah.move rfl rfl) ?_;refine Zn (fun hcx=>ah.dY rfl rfl Tryz.underlying9) ?_;refine Zn (fun hcx=>ah.gU rfl rfl rfl) ?_;refine gS ?_;refine db 0 1 2 4 5 6 12 25 (Zt ?_);refine Cd.aR rfl (by simp;intro h;rw[h] at hpos;simp at hpos) ?_;refine Cd.skip (aN ?_);refine Zm ?_;refine Zc (Ze Tryz.func15) (hd1 _) ?_;rintro en w9 ⟨rfl,hb9⟩;refine⟨_,rfl,?_⟩;replace bel:=bel.step hb9;replace k2:=k2.step hb9;refine Zm ?_;refine Zx ?_;refine Zx ?_;refine Zl de ?_;intro g7 w2 n7;have e7:=Nat.le_trans bel.size n7.ge;have l7:=Nat.lt_of_lt_of_le k2.lt n7.ge;replace bel:=bel.step n7.below;replace k2:=k2.step n7.below;have k7:=n7.aE;refine Zo 9 k7 ?_;intro w3 pw3;replace bel:=bel.put k7 pw3 e7;replace k2:=k2.put pw3 (by omega);replace k7:=pw3.aE;refine Za ?_;refine fO 0 1 2 4 5 6 7 8 12 25 (aN ?_);have k7:aQ _ g7 29 #[.int .i64 e.kind, .string (strOf e.id), .string (strOf e.a), .string (strOf e.b), .string (strOf e.text), .int .i64 e.day, .int .i64 e.at_, .int .i64 e.df, .int .i64 e.n]:=k7;refine Zm ?_;refine Zm ?_;refine Zv (ah.qJ (r:=u) rfl rfl Tryz.underlying3 Tryz.underlying37 hu) ?_;refine Zm ?_;refine Zv (ah.dY rfl rfl Tryz.underlying9) ?_;refine Zv (ah.qJ (r:=n.bytes.length) rfl rfl Tryz.underlying3 Tryz.underlying37 (by omega)) ?_;refine Zv ((ah.mG rfl rfl rfl (by omega) (by omega)).cast (v':= .int .u64 (m:Int)) (int_eq (by rw[hm];exact(Int.natCast_emod _ _).symm))) ?_;refine Zv (ah.fm rfl rfl Tryz.underlying37 Tryz.underlying3 (ji (by omega) (by omega))) ?_;refine Zv (ah.sliceTo (j:=m) rfl rfl rfl Tryz.underlying9 rfl (by omega)) ?_;refine Zc (Ze Tryz.func15) (hd2 _) ?_;rintro en w10 ⟨rfl,hb10⟩;refine⟨_,rfl,?_⟩;replace bel:=bel.step hb10;replace k2:=k2.step hb10;replace k7:=k7.step hb10;refine Zm ?_;refine Zx ?_;refine Zx ?_;refine Zl de ?_;intro g9 w4 n9;have e9:=Nat.le_trans bel.size n9.ge;have l9:=Nat.lt_of_lt_of_le k7.lt n9.ge;have l9_k2:=Nat.lt_of_lt_of_le k2.lt n9.ge;replace bel:=bel.step n9.below;replace k2:=k2.step n9.below;replace k7:=k7.step n9.below;have k9:=n9.aE;refine Zo 9 k9 ?_;intro w5 pw5;replace bel:=bel.put k9 pw5 e9;replace k2:=k2.put pw5 (by omega);replace k7:=k7.put pw5 (by omega);replace k9:=pw5.aE;refine Za ?_;refine eT 0 1 2 4 5 6 7 8 10 12 25 (aN ?_);refine Zm ?_;refine bF ?_;refine Zm ?_;refine aJ.start ?_;refine cF (fun hcx=>ah.fp rfl rfl Tryz.underlying29 rfl k7 (m:=9) (by kernel_rfl) rfl) ?_;refine Zn (fun hcx=>ah.fp rfl rfl Tryz.underlying23 rfl k2 (m:=9) (by kernel_rfl) rfl) ?_;refine Zn (fun hcx=>ah.bin rfl rfl rfl (mH _ _ _ _ _ _) (heq _)) ?_;refine gD ?_;refine Zm ?_;refine aJ.start ?_;refine cF (fun hcx=>ah.move rfl rfl) ?_;refine Zn (fun hcx=>ah.gU rfl rfl rfl) ?_;refine gD ?_;refine Zm ?_;refine aJ.start ?_;refine aJ.zh rfl rfl rfl rfl rfl rfl rfl (fun hcx=>Ze Tryz.func10) (fun hcx=>jj _) ?_;intro w6 hw6;replace bel:=bel.step hw6;replace k2:=k2.step hw6;replace k7:=k7.step hw6;replace k9:=k9.step hw6;refine gD ?_;refine Za ?_;refine eT 0 1 2 4 5 6 7 8 10 12 25 (Zt (Cd.ret ?_));refine bQ ?_;exact⟨bW (aV (by simp)),bel⟩
end Go.Proofs.YtigoimhndlnhfaaGreat