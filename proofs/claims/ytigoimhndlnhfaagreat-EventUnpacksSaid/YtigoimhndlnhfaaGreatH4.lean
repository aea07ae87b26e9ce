/-
  Texts that were joined: LexJ, PanN, PanO, PanP, PanQ, ParB, PanR, PanS, PanT, PanU, PanV, CutA, CutB, CutC, ParC, ParD, ClmA, ClmB, ClmC, ParE, LexK, DateE, LexL, ClmD, ClmE, ClmF, ParF, ClmG, ClmH, TOpen, EvA, EvB, EvL, EvM, EvN, EvO, EvP, EvC, EvD, EvE, VodA, EvQ, EvR. Conditions: what each theorem names.
-/
import Derived.Test.YtigoimhndlnhfaaGreatH3
import Derived.ProofKit
import Derived.OpenShut
import Derived.Lib.SmallJoins
import Derived.Deep.Slices
import Derived.Deep.Fields
import Derived.ChangeSame
set_option linter.unusedSectionVars false
namespace Go.Proofs.YtigoimhndlnhfaaGreat
theorem th (c:Nat)(r:List Nat):iP (c::r)=if fP c then(if lL (c::r) then some (2,(c::r).take 10,fX ((c::r).take 10)) else(pY ((c::r).take (runN bl (c::r)))).map fun v=>(1,(c::r).take (runN bl (c::r)),v))
  else if qF c then(if runN bl (c::r)≤16 then some (3,(c::r).take (runN bl (c::r)),0) else none)
  else(nL (c::r)).map fun s=>(0,s,0):=rfl
open Go.RowKit
def BD (x:Wd):Prop:=(x.kind=0∧x.text∈ep∧x.n=0)∨(x.kind=1∧0≤x.n∧x.n≤9223372036854775807)∨(x.kind=2∧0≤x.n∧x.n≤2932896)∨(x.kind=3∧cg x.text=true∧x.n=0)
theorem vR (p:Nat→Bool)(t:List Nat)(ht:∀x∈t,p x=true):runN p t=t.length:=by
 induction t with
 |nil=>rfl
 |cons x t ih=>rw[eF,if_pos (ht x (by simp)),ih (fun y hy=>ht y (by simp[hy]))];rfl
theorem zX {y m d:Int}(h:iV y m d=true):0≤gC y m d∧gC y m d≤2932896:=by
 unfold iV at h;simp only[Bool.and_eq_true,decide_eq_true_eq] at h;obtain⟨⟨⟨h1,h2⟩,h3⟩,h4⟩:=h;obtain⟨h5,h6,h7⟩:=mv (y:=y) (m:=m) (by omega);unfold gC pN ofM
 by_cases hm:m<3
 ·rw[if_pos hm,if_pos hm];omega
 ·rw[if_neg hm,if_neg hm];omega
theorem wT (l:List Nat):0≤fX l∧fX l≤2932896:=by
 unfold fX;split
 ·rename_i h
  unfold gp at h;simp only[Bool.and_eq_true] at h;exact zX h.2
 ·omega
theorem xg {l:List Nat}{k:Int}{t:List Nat}{n:Int}{pos:Nat}(h:iP l=some (k,t,n)):BD ⟨k,t,n,pos⟩:=by
 obtain⟨h1,h2,h3⟩:=il h
 cases l with
 |nil=>cases h
 |cons c l=>
  rw[th] at h
  by_cases hd:fP c=true
  ·rw[if_pos hd] at h
   by_cases hday:lL (c::l)=true
   ·rw[if_pos hday] at h
    injection h with h
    injection h with e1 h
    injection h with e2 e3
    have:=wT ((c::l).take 10);exact .inr (.inr (.inl ⟨e1.symm,by simp only;omega,by simp only;omega⟩))
   ·rw[if_neg hday] at h
    cases ha:pY ((c::l).take (runN bl (c::l))) with
    |none=>rw[ha] at h;cases h
    |some v=>
     rw[ha] at h;injection h with h
     injection h with e1 h
     injection h with e2 e3
     unfold pY at ha;split at ha
     ·rename_i h6
      injection ha with ha
      exact .inr (.inl ⟨e1.symm,by simp only;omega,by simp only;omega⟩)
     ·cases ha
  ·rw[if_neg hd] at h
   by_cases hle:qF c=true
   ·rw[if_pos hle] at h
    by_cases uB:runN bl (c::l)≤16
    ·rw[if_pos uB] at h
     injection h with h
     injection h with e1 h
     injection h with e2 e3
     have hall:∀x∈t,bl x=true:=by rw[←e2];exact m9 bl _
     have htl:t.length≤16:=by rw[←e2,List.length_take];omega
     have ht0:t.getD 0 0=c:=by
      cases t with
      |nil=>simp at h1
      |cons d q=>
       rw[List.length_cons,List.take_succ_cons] at h2;injection h2 with h2 _
     refine .inr (.inr (.inr ⟨e1.symm,?_,e3.symm⟩));show cg t=true;unfold cg;rw[vR bl t hall,ht0,hle];have hne:t≠ []:=fun e=>by rw[e] at h1;simp at h1
     simp[htl,hne]
    ·rw[if_neg uB] at h;cases h
   ·rw[if_neg hle] at h
    cases hs:nL (c::l) with
    |none=>rw[hs] at h;cases h
    |some s=>
     rw[hs] at h;injection h with h
     injection h with e1 h
     injection h with e2 e3
     subst e2;exact .inl ⟨e1.symm,List.mem_of_find?_eq_some hs,e3.symm⟩
theorem ua (l:List Nat)(hl:∀x∈l,x<256):∀f p,∀x∈(fH f l p).1,BD x∧(∀c∈x.text,c<256)∧x.text.length≤l.length∧x.pos<l.length
 |0,p,x,h=>by simp[fH] at h
 |f+1,p,x,h=>by
  rcases Nat.lt_or_ge p l.length with hlt|hge
  ·rw[je f l p hlt] at h
   cases hn:iP (l.drop p) with
   |none=>rw[hn] at h;simp at h
   |some z=>
    obtain⟨k,t,n⟩:=z;rw[hn] at h;rcases List.mem_cons.1 h with rfl|h
    ·obtain⟨s1,s2,s3⟩:=il hn
     refine⟨xg hn,fun c hc=> ?_,by rw[List.length_drop] at s3;dsimp only;omega,hlt⟩;dsimp only at hc;rw[s2] at hc;exact hl c (List.mem_of_mem_drop (List.mem_of_mem_take hc))
    ·exact ua l hl f _ x h
  ·rw[kP _ _ _ hge] at h;simp at h
theorem sa (l:List Nat):∀(f p:Nat),p≤l.length→(fH f l p).1.length+p≤l.length
 |0,p,h=>by unfold fH;simpa using h
 |f+1,p,h=>by
  rcases Nat.lt_or_ge p l.length with h2|h2
  ·rw[je f l p h2]
   cases hn:iP (l.drop p) with
   |none=>simpa using h
   |some x=>
    obtain⟨k,t,n⟩:=x;obtain⟨s1,-,s3⟩:=il hn;rw[List.length_drop] at s3;have hb:=jr (l.drop (p+t.length));rw[List.length_drop] at hb;have:=sa l f (p+t.length+bS (l.drop (p+t.length))) (by omega);simp;omega
  ·rw[kP _ l p h2];simpa using h
theorem tG (l:List Nat):(aN l).1.length≤l.length:=by
 have:=sa l (l.length+1) (bS l) (jr l);unfold aN;omega
theorem BD.i64 {x:Wd}(h:BD x):bu x.kind∧bu x.n:=by
 unfold bu;rcases h with ⟨h1,-,h2⟩|⟨h1,h2,h3⟩|⟨h1,h2,h3⟩|⟨h1,-,h2⟩<;>omega
theorem zQ (l:List Nat)(hl:∀x∈l,x<256)(h4:l.length≤4000){B g c:Nat}{A:Option Addr}(hle:B≤g):(Ctx.mk B g c l.length A (aN l).1).Ok:=
 ⟨hle,by have:=tG l;show(aN l).1.length≤4000;omega,h4,fun x hx=>by
  obtain⟨h1,h2,h3,h4'⟩:=ua l hl _ _ x hx;exact⟨h1.i64.1,h1.i64.2,h2,by omega,by omega⟩⟩
theorem rT {α:Type}(K:Ctx)(h:Nat)(f:Nat)(cp:List Value)(b3 b9:Nat)(r:Rs α)(okv:α→World→Prop)(W:World)(eg:∀args w,(callFunc f args).run Tryz.prog w= .ok (.enter f args) w)
  (k3:aE W b3 190 #[.func (.func f) #[] cp.toArray]) (k9:aE W b9 189 #[.pointer (some ⟨K.g,0,none⟩)]) (hne:r≠ .out)
  (hc:Calls Tryz.prog f ([]++[Value.pointer (some ⟨K.g,0,none⟩)]++cp).toArray W (AM K h W r okv)):
  Calls Tryz.prog 163 #[.pointer (some ⟨b3,0,none⟩), .pointer (some ⟨b9,0,none⟩)] W (AM K h W r okv):=by
 have bel:=Below.refl W.heap.size W;have k98:=k3;have k99:=k9;refine Zs 5 Tryz.func163 ?_;refine Zr ?_;refine ZL Tryz.underlying190 k98 ?_;refine ZL Tryz.underlying189 k99 ?_;rcases Rs.bZ hne with ⟨q,ov,hr⟩|⟨x,q,hr⟩
 ·rw[hr] at hc⊢
  refine Seq.bJ (Enters.value (first:=[]) (cap:=cp) rfl rfl rfl eg) rfl hc ?_;rintro e w6 ⟨hf,rfl,d6,hp6⟩;refine⟨_,rfl,fun a ha=>⟨ha.defers,?_⟩⟩;exact⟨hf,rfl,d6,hp6⟩
 rw[hr] at hc⊢;refine Seq.call (Enters.value (first:=[]) (cap:=cp) rfl rfl rfl eg) rfl rfl rfl hc ?_;rintro e wq ⟨hf,kpq,⟨v,rfl⟩,pwq,hov⟩;refine⟨_,rfl,?_⟩;refine cZ 0 1 ?_;refine ab.du rfl (.inr rfl) ?_;exact⟨hf,kpq,⟨_,rfl⟩,pwq,hov⟩
def endPos (l:List Nat)(p:Nat):Nat:=((aN l).1.getD p ⟨-1,[],0,l.length⟩).pos
def bU {α:Type}(l:List Nat)(r:Rs α):Nat × Int:=if 4000<l.length then(0,4) else match (aN l).2 with
 |some p=>(p,11)
 |none=>match r with
  | .out=>(0,0)
  | .bad p ov=>if ov=true then(0,13) else(endPos l p,11)
  | .ok _ p=>if p=(aN l).1.length then(0,0) else(endPos l p,11)
def sM {α:Type}(l:List Nat)(r:Rs α)(ok2:α→World→Prop)(h:Nat)(w:World)(e:Ending)(w':World):Prop:=
 Below h w w'∧Kp w w'∧e= .returned (.tuple #[.int .i64 ((bU l r).1:Int), .int .i64 (bU l r).2])∧((bU l r).2=0→∃a p,r= .ok a p∧ok2 a w')
theorem lB (A:Option Addr)(n c:Nat)(z:Int)(w:World):(Instr.build 219 #[(0, .slice A n c),(4, .int .i64 z)]).run Tryz.prog w= .ok (.agg #[.slice A n c, .int .i64 0, .int .i64 0, .bool false, .int .i64 z]) w:=by
 have hu:=Tryz.underlying219
 go_simp
theorem iL (a b c:Int)(s:ByteArray)(w:World):(Instr.field 221 (.agg #[.int .i64 a, .string s, .int .i64 b, .int .i64 c]) 3).run Tryz.prog w= .ok (.int .i64 c) w:=by kernel_rfl
theorem j4:br Tryz.prog 189=some (some (.pointer none)):=by kernel_rfl
theorem nr {α:Type}(l:List Nat)(hl:∀x∈l,x<256)(hlen:l.length≤9223372036854775807)(f:Nat)(cp:List Value)(h:Nat)(r:Rs α)(okv:World→α→World→Prop)(ok2:α→World→Prop)(w:World)(hh:h≤w.heap.size)(eg:∀args w,(callFunc f args).run Tryz.prog w= .ok (.enter f args) w)
  (hne:r≠ .out)
  (hok:∀a W0 W W' g,okv W0 a W→w.heap.size≤g→g<W0.heap.size→W0.heap.size≤W.heap.size→W.heap.size≤W'.heap.size→(∀k,k<W.heap.size→k≠g→W'.heap[k]? =W.heap[k]?)→ok2 a W')
  (hc:∀K:Ctx,K.Ok→K.ws=(aN l).1→(aN l).2=none→w.heap.size≤K.g→(∀ad,K.A=some ad→w.heap.size≤ad.block)→∀W,Below w.heap.size w W→PW K W 0 0 false→Calls Tryz.prog f ([]++[Value.pointer (some ⟨K.g,0,none⟩)]++cp).toArray W (AM K h W r (okv W))):
  Calls Tryz.prog 126 #[.string (strOf l), .func (.func f) #[] cp.toArray] w (sM l r ok2 h w):=by
 have bel:=Below.refl w.heap.size w;refine Zs 40 Tryz.func126 ?_;refine ah ?_;refine Seq.box rfl rfl rfl rfl rfl ?_;intro g3 w1 n3;have e3:=Nat.le_trans bel.size n3.ge;replace bel:=bel.step n3.below;have k3:=n3.an;refine Za ?_;refine Za ?_;refine aL 0 1 3 4 5 (az ?_);refine Zm ?_;refine Zc (Ze Tryz.func161) (uJ l _ hl hlen) ?_;rintro e wv ⟨hb2,⟨h1,rfl⟩|⟨h1,p,h2,rfl⟩|⟨h4,h2,v,rfl,own⟩⟩
 ·have hpa:bU l r=(0,4):=by unfold bU;rw[if_pos h1]
  refine⟨_,rfl,?_⟩;replace bel:=bel.step hb2;replace k3:=k3.step hb2;refine Zm ?_;refine Zx ?_;refine Zx ?_;refine Zx ?_;refine Za ?_;refine Za ?_;refine Za ?_;refine bO 0 1 3 4 5 6 7 8 (aH (ah ?_));refine Zm ?_;refine jq ?_;refine cw 0 1 3 4 5 6 7 8 18 (Zt ?_);refine Cd.aM rfl (by simp) ?_;refine ah ?_;refine Zm ?_;refine Zm ?_;refine Za ?_;refine Za ?_;refine cw 0 1 3 4 5 6 7 8 18 (Zt (Cd.ret (ab.ae ?_)));refine cG ?_;unfold sM;rw[hpa];exact⟨bel.mono hh,(Kp.refl w).step bel,rfl,fun h=>by cases h⟩
 ·have hpa:bU l r=(p,11):=by unfold bU;rw[if_neg (by omega),h2]
  refine⟨_,rfl,?_⟩;replace bel:=bel.step hb2;replace k3:=k3.step hb2;refine Zm ?_;refine Zx ?_;refine Zx ?_;refine Zx ?_;refine Za ?_;refine Za ?_;refine Za ?_;refine bO 0 1 3 4 5 6 7 8 (aH (ah ?_));refine Zm ?_;refine jq ?_;refine cw 0 1 3 4 5 6 7 8 18 (Zt ?_);refine Cd.aM rfl (by simp) ?_;refine ah ?_;refine Zm ?_;refine Zm ?_;refine Za ?_;refine Za ?_;refine cw 0 1 3 4 5 6 7 8 18 (Zt (Cd.ret (ab.ae ?_)));refine cG ?_;unfold sM;rw[hpa];exact⟨bel.mono hh,(Kp.refl w).step bel,rfl,fun h=>by cases h⟩
 obtain⟨A,cap,rfl,hrd⟩:=own.reads;refine⟨_,rfl,?_⟩;replace bel:=bel.step hb2;replace k3:=k3.step hb2;refine Zm ?_;refine Zx ?_;refine Zx ?_;refine Zx ?_;refine Za ?_;refine Za ?_;refine Za ?_;refine bO 0 1 3 4 5 6 7 8 (aH (ah ?_));refine Zm ?_;refine jq ?_;refine cw 0 1 3 4 5 6 7 8 18 (Zt ?_);refine Cd.aI rfl (by simp) ?_;refine Cd.skip (az ?_);refine Zm ?_;refine Zm ?_;refine Zv (aa.ed rfl rfl Tryz.underlying9) ?_;refine Zv (aa.build rfl rfl (lB _ _ _ _ _)) ?_;refine Seq.box rfl rfl rfl rfl rfl ?_;intro g25 w2 n25;have e25:=Nat.le_trans bel.size n25.ge;have l25:=Nat.lt_of_lt_of_le k3.lt n25.ge;replace bel:=bel.step n25.below;replace k3:=k3.step n25.below;have k25:=n25.an;refine Zl j4 ?_;intro g9 w3 n9;have e9:=Nat.le_trans bel.size n9.ge;have l9:=Nat.lt_of_lt_of_le k25.lt n9.ge;replace bel:=bel.step n9.below;replace k3:=k3.step n9.below;replace k25:=k25.step n9.below;have k9:=n9.an;refine Zq k9 ?_;intro w4 pw4;replace bel:=bel.put k9 pw4 e9;replace k3:=k3.put pw4 (by omega);replace k25:=k25.put pw4 (by omega);replace k9:=pw4.an;refine dr 0 1 3 4 5 6 7 8 9 18 (aH (ah ?_));refine ZL Tryz.underlying189 k9 ?_;refine Zv (aa.makeFunc (v:= .func (.func 163) #[] #[.pointer (some ⟨g3,0,none⟩), .pointer (some ⟨g9,0,none⟩)]) rfl (show fc _ _=some [] from rfl) (show fc _ _=some [.pointer (some ⟨g3,0,none⟩), .pointer (some ⟨g9,0,none⟩)] from rfl) rfl) ?_;have hB4:Below wv.heap.size wv w4:=pw4.gH (n25.below.step n9.below) (Nat.le_trans n25.below.size n9.ge) (by have:=n9.below.size;have:=k9.lt;have:=pw4.size;omega);have hKok:=zQ l hl h4 (B:=wv.heap.size) (g:=g25) (c:=cap) (A:=A) n25.ge
 generalize hK:(Ctx.mk wv.heap.size g25 cap l.length A (aN l).1)=K at hKok
 have hKg:K.g=g25:=by rw[←hK]
 have hKw:K.ws=(aN l).1:=by rw[←hK]
 have hKe:K.en=l.length:=by rw[←hK]
 have pw:PW K w4 0 0 false:=by rw[←hK];exact⟨k25,hrd.below hB4,Nat.zero_le _, .inl (by omega)⟩
 have hKA:∀ad,K.A=some ad→w.heap.size≤ad.block:=fun ad h=>by
  rw[←hK] at h;have h:A=some ad:=h;have:=(own.aQ ad.block (by rw[h];rfl)).1;have:=n3.below.size;omega
 subst hKg
 have hrun:=wh K hKok 163 [.pointer (some ⟨g3,0,none⟩), .pointer (some ⟨g9,0,none⟩)] h r okv ok2 w4 pw (Nat.le_trans hh bel.size) hne (fun args w=>aF Tryz.func163 (by kernel_rfl) rfl args w)
  (fun a W0 W W' g h1 h2 h3 h4 h5 h6=>hok a W0 W W' g h1 (Nat.le_trans bel.size h2) h3 h4 h5 h6)
  (fun W hb hp=>rT K h f cp g3 g9 r (okv W) W eg (k3.step hb) (k9.step hb) hne (hc K hKok hKw h2 e25 hKA W (bel.step hb) hp))
 refine Zc (Ze Tryz.func162) (hrun) ?_;rcases Rs.bZ hne with ⟨q,ov,hr⟩|⟨x,q,hr⟩
 ·rw[hr]
  rintro e w6 ⟨hf,kp,rfl,d6,hp6⟩;refine⟨_,rfl,?_⟩;have k9':=kp.an k9;have kfin:Kp w w6:=((Kp.refl w).step bel).trans kp;have bfin:Below h w w6:=(bel.mono hh).trans (hf.below (Nat.le_refl _) (by omega));have hw6:=eR K hKok q d6 ov w6 hp6;have hpos:(K.at_ q).pos=endPos l q:=by unfold Ctx.at_ endPos;rw[hKw,hKe]
  have k99:=hp6.an;clear k9;have k9:=k9';clear bel;have bel:=Below.refl w6.heap.size w6
  cases ov with
  |true=>
   have hpa:bU l (Rs.bad (α:=α) q true)=(0,13):=by unfold bU;rw[if_neg (by omega),h2];rfl
   refine Za ?_;refine ct 0 1 3 4 5 6 7 8 9 10 18 (Zt (Cd.block (ah ?_)));refine ZL Tryz.underlying189 k9 ?_;refine Zv (aa.nilCheck rfl rfl) ?_;refine Zf 3 Tryz.underlying219 ?_;refine ZL Tryz.underlying4 k99 ?_;refine Za ?_;refine eZ 0 1 3 4 5 6 7 8 9 10 18 29 (Zt ?_);refine Cd.aM rfl rfl ?_;refine ah ?_;refine Za ?_;refine Za ?_;refine eZ 0 1 3 4 5 6 7 8 9 10 18 29 (Zt (Cd.ret (ab.af (ab.ae ?_))));refine cG ?_;unfold sM;rw[hpa];exact⟨bfin.trans (bel.mono (by have:=bfin.size;omega)),kfin.step bel,rfl,fun h=>by cases h⟩
  |false=>
   have hpa:bU l (Rs.bad (α:=α) q false)=(endPos l q,11):=by unfold bU;rw[if_neg (by omega),h2];rfl
   have hwf:=fun W (hb:Below w6.heap.size w6 W)=>eR K hKok q d6 false W (hp6.step hKok.le hb);refine Za ?_;refine ct 0 1 3 4 5 6 7 8 9 10 18 (Zt (Cd.block (ah ?_)));refine ZL Tryz.underlying189 k9 ?_;refine Zv (aa.nilCheck rfl rfl) ?_;refine Zf 3 Tryz.underlying219 ?_;refine ZL Tryz.underlying4 k99 ?_;refine Za ?_;refine eZ 0 1 3 4 5 6 7 8 9 10 18 29 (Zt ?_);refine Cd.aI rfl rfl ?_;refine ah ?_;refine Zm ?_;refine gU ?_;refine Za ?_;refine iW 0 1 3 4 5 6 7 8 9 10 18 29 34 (Zt ?_);refine Cd.aM rfl rfl ?_;refine ah ?_;refine ZL Tryz.underlying189 k9 ?_;refine Zc (Ze Tryz.func164) (hwf _ bel) ?_;rintro e w7 ⟨rfl,hb7⟩;refine⟨_,rfl,?_⟩;replace bel:=bel.step hb7;replace k9:=k9.step hb7;replace k99:=k99.step hb7;refine Zv (aa.field rfl rfl (iL _ _ _ _ _)) ?_;refine Za ?_;refine Za ?_;refine iW 0 1 3 4 5 6 7 8 9 10 18 29 34 (Zt (Cd.ret (ab.af (ab.ae ?_))));refine cG ?_;unfold sM;rw[hpa];refine⟨bfin.trans (bel.mono (by have:=bfin.size;omega)),kfin.step bel,?_,fun h=>by cases h⟩;rw[←hpos]
 ·rw[hr]
  rintro e w6 ⟨hf,kp,rfl,⟨d6,hp6⟩,hov⟩;refine⟨_,rfl,?_⟩;have k9':=kp.an k9;have kfin:Kp w w6:=((Kp.refl w).step bel).trans kp;have bfin:Below h w w6:=(bel.mono hh).trans (hf.below (Nat.le_refl _) (by omega));have hpos:(K.at_ q).pos=endPos l q:=by unfold Ctx.at_ endPos;rw[hKw,hKe]
  have k99:=hp6.an;clear k9;have k9:=k9';clear bel;have bel:=Below.refl w6.heap.size w6;rw[hKw] at *;refine Za ?_;refine ct 0 1 3 4 5 6 7 8 9 10 18 (Zt (Cd.block (ah ?_)));refine ZL Tryz.underlying189 k9 ?_;refine Zv (aa.nilCheck rfl rfl) ?_;refine Zf 3 Tryz.underlying219 ?_;refine ZL Tryz.underlying4 k99 ?_;refine Za ?_;refine eZ 0 1 3 4 5 6 7 8 9 10 18 29 (Zt ?_);refine Cd.aI rfl rfl ?_;refine ah ?_;refine Zm ?_;refine gU ?_;refine Za ?_;refine iW 0 1 3 4 5 6 7 8 9 10 18 29 34 (Zt ?_);refine Cd.cond rfl (fun h=> ?_) (fun h=> ?_)
  ·have hq:q≠(aN l).1.length:=by simpa using h
   have hpa:bU l (Rs.ok x q)=(endPos l q,11):=by unfold bU;rw[if_neg (by omega),h2];exact if_neg hq
   have hwf:=fun W (hb:Below w6.heap.size w6 W)=>eR K hKok q d6 false W (hp6.step hKok.le hb);refine ah ?_;refine ZL Tryz.underlying189 k9 ?_;refine Zc (Ze Tryz.func164) (hwf _ bel) ?_;rintro e w7 ⟨rfl,hb7⟩;refine⟨_,rfl,?_⟩;replace bel:=bel.step hb7;replace k9:=k9.step hb7;replace k99:=k99.step hb7;refine Zv (aa.field rfl rfl (iL _ _ _ _ _)) ?_;refine Za ?_;refine Za ?_;refine iW 0 1 3 4 5 6 7 8 9 10 18 29 34 (Zt (Cd.ret (ab.af (ab.ae ?_))));refine cG ?_;unfold sM;rw[hpa];refine⟨bfin.trans (bel.mono (by have:=bfin.size;omega)),kfin.step bel,?_,fun h=>by cases h⟩;rw[←hpos]
  ·have hq:q=(aN l).1.length:=by simpa using h
   have hpa:bU l (Rs.ok x q)=(0,0):=by unfold bU;rw[if_neg (by omega),h2];exact if_pos hq
   refine Cd.skip (ab.ag (az ?_));refine Za ?_;refine Za ?_;refine iW 0 1 3 4 5 6 7 8 9 10 18 29 34 (Zt (Cd.ret ?_));refine cG ?_;unfold sM;rw[hpa];exact⟨bfin.trans (bel.mono (by have:=bfin.size;omega)),kfin.step bel,rfl,fun _=>⟨x,q,rfl,hov⟩⟩
def AJ (gt:Nat)(W0:World)(x:Tm)(W:World):Prop:=∃(S:Nat→Prop) (v:Value),aE W gt 71 v.cells∧dC W S x v∧∀b,S b→W0.heap.size≤b∧b<W.heap.size
theorem tk (K:Ctx)(hK:K.Ok)(n gt h:Nat)(W:World)(pw:PW K W 0 0 false)(kt:aE W gt 71 #[.int .i64 0, .string {data:= #[]}, .slice none 0 0, .slice none 0 0]) (hg:gt<K.g) (hh:h≤gt) (hKA:∀ad,K.A=some ad→ad.block≠gt) (hne:lI K.ws n 0 0≠ .out):
  Calls Tryz.prog 127 #[.pointer (some ⟨K.g,0,none⟩), .pointer (some ⟨gt,0,none⟩)] W (AM K h W (lI K.ws n 0 0) (AJ gt W)):=by
 have hcl:=r8 K hK n 0 0 W pw hne;have hlt:=pw.an.lt;have hle:=hK.le;have bel:=Below.refl W.heap.size W;refine Zs 5 Tryz.func127 ?_;refine Zr ?_;refine Zm ?_;rcases Rs.bZ hne with ⟨q,ov,hr⟩|⟨x,q,hr⟩
 ·rw[hr] at hcl⊢
  refine Seq.bJ (Ze Tryz.func128) rfl hcl ?_;rintro e w6 ⟨hf,rfl,d6,hp6⟩;refine⟨_,rfl,fun a ha=>⟨ha.defers,?_⟩⟩;exact⟨hf,rfl,d6,hp6⟩
 rw[hr] at hcl⊢;refine Zc (Ze Tryz.func128) (hcl) ?_;rintro e wq ⟨hf,v,rfl,pwq,S,hrep,hS⟩;refine⟨_,rfl,?_⟩;have kp0:=(Kp.refl W).fz pw.an hf;have k98:=kt.fz hf (by omega);have hs98:=k98.lt;have k98':=k98;obtain⟨A,c,A',c',rfl⟩:=hrep.form;have hq:=pwq.an.lt;clear bel;have bel:=Below.refl wq.heap.size wq;refine Zo 4 k98 ?_;intro w1 pw1;replace k98:=pw1.an;refine cZ 0 1 ?_;refine ab.du rfl (.inr rfl) ?_;have hsz:=pw1.size;have hbl:∀k,k≠gt→k<wq.heap.size→w1.heap[k]? =wq.heap[k]? :=fun k hk hl=>pw1.grown.block k hl (fun e=>hk (by injection e))
 have hrd:Reads w1 K.B 4 K.A K.ws.length (dQ K.ws):=⟨pwq.rd.1,fun h0=>by
  obtain⟨ad,e1,e2,e3⟩:=pwq.rd.2 h0;exact⟨ad,e1,e2,fun j u hu=>(World.cell?_of_block (by rw[ai];exact hbl _ (hKA ad e1) (by omega))).trans (e3 j u hu)⟩⟩
 have k98z:aE w1 gt 71 (Value.agg #[Value.int .i64 x.op,Value.string (strOf x.name),Value.slice A x.exprs.length c,Value.slice A' x.aw.length c']).cells:=k98;have kgz:aE w1 K.g 219 _:=pwq.an.put pw1 (by omega);exact⟨⟨pw1.grown.os.trans hf.os,pw1.grown.tape.trans hf.tape,pw1.grown.output.trans hf.output,by have:=hf.size;omega,fun k hk hne=>(hbl k (by omega) (by omega)).trans (hf.block k (by omega) hne)⟩,kp0.put k98' pw1 trivial,⟨_,rfl⟩,⟨kgz,hrd,pwq.cj,pwq.cD⟩,S,_,k98z,hrep.mono (fun _ h=>h) (fun a ha=>World.cell?_of_block (hbl _ (by have:=(hS _ ha).1;have:=kt.lt;omega) (hS _ ha).2)),fun b hb=>⟨(hS b hb).1,by have:=(hS b hb).2;omega⟩⟩
theorem oF (e:Ex)(B:Nat)(v:Value)(w:World)(hrep:jQ w B e v)(hB:B≤w.heap.size):Calls Tryz.prog 136 #[v] w fun en w'=>en= .returned (.bool (decide (e.nodes≤200)&&decide (e.depth≤16)&&bQ e))∧Grow w w':=by
 have hs:=fun W (hb:Below w.heap.size w W)=>ie e.nodes e 0 B v W (Nat.le_refl _) (by omega) (hrep.below (hb.mono hB)) (Nat.le_trans hB hb.size);have hbt:=fun W (hb:Below w.heap.size w W)=>gn e.nodes e B v W (Nat.le_refl _) (hrep.below (hb.mono hB)) (Nat.le_trans hB hb.size);have hc:=zl e;have hdn:=e.bm;have hsz:=lF e 0
 have hres:(decide (e.nodes≤200)&&decide (e.depth≤16))=(decide ((om e 0).1≤200)&&decide ((om e 0).2≤16)):=by
  obtain⟨c1,c2⟩:=hc;rw[Bool.eq_iff_iff];simp only[Bool.and_eq_true,decide_eq_true_eq]
  constructor
  ·rintro⟨h1,h2⟩
   rw[c2 (by omega)];omega
  ·rintro⟨h1,h2⟩
   have h3:e.nodes≤200:=by omega
   rw[c2 (by omega)] at h2;omega
 rw[hres];obtain⟨A,c,rfl,-⟩:=hrep.open;have bel:=Below.refl w.heap.size w
 generalize (om e 0)=s at *
 refine Zs 10 Tryz.func136 ?_;refine ah ?_;refine Seq.box rfl rfl rfl rfl rfl ?_;intro g1 w1 n1;have e1:=Nat.le_trans bel.size n1.ge;replace bel:=bel.step n1.below;have k1:=n1.an;refine Za ?_;refine bk 0 1 2 (az ?_);refine ZW 4 Tryz.underlying105 k1 ?_;refine Zc (Ze Tryz.func179) (hs _ bel) ?_;rintro en w5 ⟨rfl,hb5⟩;refine⟨_,rfl,?_⟩;replace bel:=bel.step hb5;replace k1:=k1.step hb5;refine Zc (Ze Tryz.func141) (fZ s.1 s.2 _) ?_;rintro en w6 ⟨rfl,hb6⟩;refine⟨_,rfl,?_⟩;replace bel:=bel.step hb6;replace k1:=k1.step hb6;refine Zm ?_;refine ar.start ?_;refine bB (fun hcx=>aa.dx rfl rfl Tryz.underlying105 rfl k1 (m:=4) (by kernel_rfl) rfl) ?_;refine ar.aW rfl rfl rfl rfl rfl rfl rfl (fun hcx=>Ze Tryz.func180) (fun hcx=>hbt _ bel) ?_;intro w2 hw2;replace bel:=bel.step hw2;replace k1:=k1.step hw2;refine dL ?_;refine Za ?_;refine bk 0 1 2 (Zt (Cd.ret ?_));refine aP ?_;exact⟨aO (aB (by cases (decide (s.1≤200)&&decide (s.2≤16))<;>rfl)),bel⟩
theorem vO (t:Tm)(B:Nat)(v:Value)(w:World)(hrep:dR w B t v)(hB:B≤w.heap.size):Calls Tryz.prog 99 #[v] w fun en w'=>en= .returned (.bool (bK t))∧Grow w w':=by
 have hs:=fun W (hb:Below w.heap.size w W)=>ke t.nodes t 0 B v W (Nat.le_refl _) (by omega) (hrep.below (hb.mono hB)) (Nat.le_trans hB hb.size);have hbt:=fun W (hb:Below w.heap.size w W)=>pg t.nodes t B v W (Nat.le_refl _) (hrep.below (hb.mono hB)) (Nat.le_trans hB hb.size);have hc:=zp t;have hdn:=t.bm
 have hres:(decide (t.nodes≤200)&&decide (t.depth≤16))=(decide ((pW t 0).1≤200)&&decide ((pW t 0).2≤16)):=by
  obtain⟨c1,c2⟩:=hc;rw[Bool.eq_iff_iff];simp only[Bool.and_eq_true,decide_eq_true_eq]
  constructor
  ·rintro⟨h1,h2⟩
   rw[c2 (by omega)];omega
  ·rintro⟨h1,h2⟩
   have h3:t.nodes≤200:=by omega
   rw[c2 (by omega)] at h2;omega
 unfold bK;rw[hres];obtain⟨A,c,A',c',rfl,-⟩:=hrep.open;have bel:=Below.refl w.heap.size w
 generalize (pW t 0)=s at *
 refine Zs 10 Tryz.func99 ?_;refine ah ?_;refine Seq.box rfl rfl rfl rfl rfl ?_;intro g1 w1 n1;have e1:=Nat.le_trans bel.size n1.ge;replace bel:=bel.step n1.below;have k1:=n1.an;refine Za ?_;refine bk 0 1 2 (az ?_);refine ZW 4 Tryz.underlying71 k1 ?_;refine Zc (Ze Tryz.func140) (hs _ bel) ?_;rintro en w5 ⟨rfl,hb5⟩;refine⟨_,rfl,?_⟩;replace bel:=bel.step hb5;replace k1:=k1.step hb5;refine Zc (Ze Tryz.func141) (fZ s.1 s.2 _) ?_;rintro en w6 ⟨rfl,hb6⟩;refine⟨_,rfl,?_⟩;replace bel:=bel.step hb6;replace k1:=k1.step hb6;refine Zm ?_;refine ar.start ?_;refine bB (fun hcx=>aa.dx rfl rfl Tryz.underlying71 rfl k1 (m:=4) (by kernel_rfl) rfl) ?_;refine ar.aW rfl rfl rfl rfl rfl rfl rfl (fun hcx=>Ze Tryz.func142) (fun hcx=>hbt _ bel) ?_;intro w2 hw2;replace bel:=bel.step hw2;replace k1:=k1.step hw2;refine dL ?_;refine Za ?_;refine bk 0 1 2 (Zt (Cd.ret ?_));refine aP ?_;exact⟨aO (aB (by cases (decide (s.1≤200)&&decide (s.2≤16))<;>rfl)),bel⟩
section
variable {α β:Type}
def ey (f:Nat→Nat→Rs α):Prop:=∀p d a q,f p d= .ok a q→p<q
def Def (f:Nat→Nat→Rs α)(m:Nat):Prop:=∀p d,m≤p→f p d≠ .out
theorem Def.up {f:Nat→Nat→Rs α}{m m':Nat}(h:Def f m)(hm:m≤m'):Def f m':=fun p d hp=>h p d (by omega)
theorem Rs.bn {r:Rs α}{f:α→Nat→Rs β}{b:β}{q:Nat}(h:r.bind f= .ok b q):∃a p,r= .ok a p∧f a p= .ok b q:=by
 cases r with
 |out=>cases h
 |bad p o=>cases h
 |ok a p=>exact⟨a,p,rfl,h⟩
theorem Rs.aR {r:Rs α}{f:α→Nat→Rs β}(h:r≠ .out)(hf:∀a p,r= .ok a p→f a p≠ .out):r.bind f≠ .out:=by
 cases r with
 |out=>exact absurd rfl h
 |bad p o=>exact fun h=>by cases h
 |ok a p=>exact hf a p rfl
theorem iS {ws:List Wd}{s:List Nat}{p q:Nat}{u:Unit}(h:dO ws s p= .ok u q):q=p+1∧uO ws p s=true:=by
 unfold dO at h;split at h
 ·rename_i hs
  injection h with _ h
  exact⟨h.symm,hs⟩
 ·cases h
theorem kY (ws:List Wd)(s:List Nat)(p:Nat):dO ws s p≠ .out:=by
 unfold dO;split<;>exact fun h=>by cases h
theorem jn {p d q:Nat}{u:Unit}(h:dX p d= .ok u q):q=p∧d<64:=by
 unfold dX at h;split at h
 ·cases h
 ·injection h with _ h
  exact⟨h.symm,by omega⟩
theorem nG (p d:Nat):dX p d≠ .out:=by
 unfold dX;split<;>exact fun h=>by cases h
theorem lN (ws:List Wd):∀(bt:List (Nat→Nat→Rs α)),(∀f∈bt,ey f)→∀first p d xs q,cn ws bt first p d= .ok xs q→p≤q
 | [],_,first,p,d,xs,q,h=>by injection h with _ h;omega
 |f::r,hm,first,p,d,xs,q,h=>by
  rw[cn] at h;obtain⟨u,p1,h1,h⟩:=Rs.bn h;obtain⟨x,p2,h2,h⟩:=Rs.bn h;obtain⟨ys,p3,h3,h⟩:=Rs.bn h;injection h with _ h
  have e1:p≤p1:=by
   split at h1
   ·injection h1 with _ h1;omega
   ·have:=(iS h1).1;omega
  have e2:=hm f (by simp) _ _ _ _ h2;have e3:=lN ws r (fun g hg=>hm g (by simp[hg])) _ _ _ _ _ h3;omega
theorem mU (ws:List Wd)(m:Nat):∀(bt:List (Nat→Nat→Rs α)),(∀f∈bt,ey f∧Def f m)→∀first p d,m≤p→cn ws bt first p d≠ .out
 | [],_,first,p,d,_=>fun h=>by cases h
 |f::r,hm,first,p,d,hp=>by
  rw[cn];refine Rs.aR ?_ fun u p1 h1=> ?_
  ·split
   ·exact fun h=>by cases h
   ·exact kY _ _ _
  have e1:p≤p1:=by
   split at h1
   ·injection h1 with _ h1;omega
   ·have:=(iS h1).1;omega
  refine Rs.aR ((hm f (by simp)).2 _ _ (by omega)) fun x p2 h2=> ?_;have e2:=(hm f (by simp)).1 _ _ _ _ h2;refine Rs.aR (mU ws m r (fun g hg=>hm g (by simp[hg])) _ _ _ (by omega)) fun ys p3 h3=> ?_;exact fun h=>by cases h
theorem fq (ws:List Wd)(bt:List (Nat→Nat→Rs α))(hm:∀f∈bt,ey f){p d:Nat}{xs:List α}{q:Nat}(h:bW ws bt p d= .ok xs q):p+2≤q:=by
 unfold bW at h;obtain⟨u,p1,h1,h⟩:=Rs.bn h;obtain⟨u2,p2,h2,h⟩:=Rs.bn h;obtain⟨ys,p3,h3,h⟩:=Rs.bn h;obtain⟨u3,p4,h4,h⟩:=Rs.bn h;injection h with _ h
 have:=(iS h1).1;have:=(jn h2).1;have:=lN ws bt hm _ _ _ _ _ h3;have:=(iS h4).1;omega
theorem fU (ws:List Wd)(bt:List (Nat→Nat→Rs α)){p:Nat}(d:Nat)(hm:∀f∈bt,ey f∧Def f (p+1)):bW ws bt p d≠ .out:=by
 unfold bW;refine Rs.aR (kY _ _ _) fun u p1 h1=> ?_;refine Rs.aR (nG _ _) fun u2 p2 h2=> ?_;have:=(iS h1).1;have:=(jn h2).1;refine Rs.aR (mU ws (p+1) bt hm _ _ _ (by omega)) fun xs p3 h3=> ?_;refine Rs.aR (kY _ _ _) fun u3 p4 h4=> ?_;exact fun h=>by cases h
theorem nu {ws:List Wd}{p q:Nat}{x:List Nat}(h:eA ws p= .ok x q):q=p+1∧x=(ez ws p).text∧(ez ws p).kind=3∧dF (ez ws p).text=false:=by
 unfold eA at h;split at h
 ·rename_i hs
  injection h with h1 h
  exact⟨h.symm,h1.symm,hs.1,hs.2⟩
 ·cases h
theorem pD (ws:List Wd)(p:Nat):eA ws p≠ .out:=by
 unfold eA;split<;>exact fun h=>by cases h
theorem pZ {ws:List Wd}{E0:Nat→Nat→Rs Ex}(hE:ey E0){op:Int}{k p d:Nat}{x:Ex}{q:Nat}(h:dn ws E0 op k p d= .ok x q):p<q:=by
 unfold dn at h;obtain⟨xs,p1,h1,h⟩:=Rs.bn h;injection h with _ h
 have:=fq ws _ (fun f hf=>(List.mem_replicate.1 hf).2▸hE) h1;omega
theorem rS {ws:List Wd}{E0:Nat→Nat→Rs Ex}(hE:ey E0){op:Int}{k p d:Nat}(hd:Def E0 (p+1)):dn ws E0 op k p d≠ .out:=by
 unfold dn;refine Rs.aR (fU ws _ d fun f hf=>(List.mem_replicate.1 hf).2▸⟨hE,hd.up (by omega)⟩) fun xs p1 h1=> ?_;exact fun h=>by cases h
theorem tF {ws:List Wd}{E0:Nat→Nat→Rs Ex}(hE:ey E0):ey (iC ws E0):=by
 intro p d x q h;unfold iC at h
 repeat' split at h
 all_goals first
  |exact pZ hE h
  |(injection h with _ h;omega)
  |(obtain⟨nm,p1,h1,h⟩:=Rs.bn h;injection h with _ h;have:=(nu h1).1;omega)
  |(obtain⟨xs,p1,h1,h⟩:=Rs.bn h;injection h with _ h;have:=fq ws _ (fun f hf=>(List.mem_singleton.1 hf)▸hE) h1;omega)
  |cases h
theorem vH {ws:List Wd}{E0:Nat→Nat→Rs Ex}(hE:ey E0){p d:Nat}(hd:Def E0 (p+1)):iC ws E0 p d≠ .out:=by
 unfold iC
 repeat' split
 all_goals first
  |exact rS hE hd
  |exact fun h=>by cases h
  |exact Rs.aR (pD _ _) fun nm p1 h1=>fun h=>by cases h
  |exact Rs.aR (fU ws _ d fun f hf=>(List.mem_singleton.1 hf)▸⟨hE,hd⟩) fun xs p1 h1=>fun h=>by cases h
theorem lW {S:Nat→Nat→Rs Ex}(hS:ey S)(op:Int):ey (fa S op):=by
 intro p d x q h;unfold fa at h;obtain⟨u,p1,h1,h⟩:=Rs.bn h;obtain⟨y,p2,h2,h⟩:=Rs.bn h;injection h with _ h
 have:=(jn h1).1;have:=hS _ _ _ _ h2;omega
theorem m5 {S:Nat→Nat→Rs Ex}(op:Int){p d:Nat}(hS:Def S (p+1)):fa S op p d≠ .out:=by
 unfold fa;refine Rs.aR (nG _ _) fun u p1 h1=> ?_;have:=(jn h1).1;exact Rs.aR (hS _ _ (by omega)) fun y p2 h2=>fun h=>by cases h
theorem iM {ws:List Wd}{S E0:Nat→Nat→Rs Ex}(hS:ey S)(hE:ey E0):ey (cN ws S E0):=by
 intro p d x q h;unfold cN at h;split at h
 ·exact lW hS _ _ _ _ _ h
 ·split at h
  ·exact lW hS _ _ _ _ _ h
  ·exact tF hE _ _ _ _ h
theorem s7 {ws:List Wd}{S E0:Nat→Nat→Rs Ex}(hE:ey E0){p d:Nat}(hS:Def S (p+1))(hd:Def E0 (p+1)):cN ws S E0 p d≠ .out:=by
 unfold cN;split
 ·exact m5 _ hS
 ·split
  ·exact m5 _ hS
  ·exact vH hE hd
end
structure x8 (f:PF):Prop where
 E:∀lvl,ey (f.E lvl)
 L:∀lvl x p d a q,f.L lvl x p d= .ok a q→p≤q
 S:ey f.S
theorem jW {ws:List Wd}{f:PF}(h:x8 f){lvl:Nat}{x:Ex}{p d:Nat}{a:Ex}{q:Nat}(hl:eB ws f lvl x p d= .ok a q):p≤q:=by
 unfold eB at hl
 cases ho:opAt ws lvl p with
 |none=>rw[ho] at hl;injection hl with _ hl;omega
 |some op=>
  rw[ho] at hl;obtain⟨r,p1,h1,hl⟩:=Rs.bn hl;have:=h.E _ _ _ _ _ h1;split at hl
  ·injection hl with _ hl;omega
  ·have:=h.L _ _ _ _ _ _ hl;omega
theorem kV {L:Nat→Ex→Nat→Nat→Rs Ex}{S:Nat→Nat→Rs Ex}(hL:∀lvl x p d a q,L lvl x p d= .ok a q→p≤q)(hS:ey S):∀j,ey (qJ L S j)
 |0=>hS
 |j+1=>fun p d a q h=>by
  rw[qJ] at h;obtain⟨x,p1,h1,h⟩:=Rs.bn h;have:=kV hL hS j _ _ _ _ h1;have:=hL _ _ _ _ _ _ h;omega
theorem fC (ws:List Wd):∀n,x8 (bp ws n)
 |0=>⟨fun _ _ _ _ _ h=>(by cases h),fun _ _ _ _ _ _ h=>(by cases h),fun _ _ _ _ h=>(by cases h)⟩
 |n+1=>by
  have ih:=fC ws n;have hL:∀lvl x p d a q,eB ws (bp ws n) lvl x p d= .ok a q→p≤q:=fun lvl x p d a q h=>jW ih h;have hS:=iM (ws:=ws) ih.S (ih.E 0);exact⟨fun lvl=>kV hL hS _,hL,hS⟩
theorem zd {ws:List Wd}{lvl p:Nat}{op:Int}(h:opAt ws lvl p=some op):p<ws.length:=by
 rcases Nat.lt_or_ge p ws.length with h1|h1
 ·exact h1
 ·unfold opAt ez at h
  rw[List.getD_eq_getElem?_getD,List.getElem?_eq_none h1] at h;simp at h
structure Bx (f:PF)(m:Nat):Prop where
 E:∀lvl,Def (f.E lvl) m
 L:∀lvl x p d,m≤p→f.L lvl x p d≠ .out
 S:Def f.S m
theorem uC {ws:List Wd}{f:PF}(hm:x8 f){m:Nat}(h:Bx f (m+1)){lvl:Nat}{x:Ex}{p d:Nat}(hp:m≤p):eB ws f lvl x p d≠ .out:=by
 unfold eB
 cases ho:opAt ws lvl p with
 |none=>exact fun h=>by cases h
 |some op=>
  refine Rs.aR (h.E _ _ _ (by omega)) fun r p1 h1=> ?_;have:=hm.E _ _ _ _ _ h1;split
  ·exact fun h=>by cases h
  ·exact h.L _ _ _ _ (by omega)
theorem mS {L:Nat→Ex→Nat→Nat→Rs Ex}{S:Nat→Nat→Rs Ex}{m:Nat}(hLm:∀lvl x p d a q,L lvl x p d= .ok a q→p≤q)(hSm:ey S)(hL:∀lvl x p d,m≤p→L lvl x p d≠ .out)(hS:Def S m):∀j,Def (qJ L S j) m
 |0=>hS
 |j+1=>fun p d hp=>by
  rw[qJ];refine Rs.aR (mS hLm hSm hL hS j _ _ hp) fun x p1 h1=> ?_;have:=kV hLm hSm j _ _ _ _ h1;exact hL _ _ _ _ (by omega)
theorem uf {ws:List Wd}{p:Nat}(h:ws.length≤p):ez ws p=⟨-1,[],0,0⟩:=by
 unfold ez;rw[List.getD_eq_getElem?_getD,List.getElem?_eq_none h];rfl
theorem sH {ws:List Wd}{p:Nat}(h:ws.length≤p)(S E0:Nat→Nat→Rs Ex)(d:Nat):cN ws S E0 p d= .bad p false:=by
 unfold cN uO iC;rw[uf h];rfl
theorem vF {ws:List Wd}{p:Nat}(h:ws.length≤p)(f:PF)(lvl:Nat)(x:Ex)(d:Nat):eB ws f lvl x p d= .ok x p:=by
 unfold eB
 cases ho:opAt ws lvl p with
 |none=>rfl
 |some op=>have:=zd ho;omega
theorem lE (ws:List Wd):∀n m,ws.length<n+1+m→Bx (bp ws (n+1)) m
 |0,m,h=>by
  have im:=fC ws 0;have hLm:∀lvl x p d a q,eB ws (bp ws 0) lvl x p d= .ok a q→p≤q:=fun lvl x p d a q h=>jW im h;have hSm:=iM (ws:=ws) im.S (im.E 0);have hL:∀lvl x p d,m≤p→eB ws (bp ws 0) lvl x p d≠ .out:=fun lvl x p d hp=>by rw[vF (by omega)];exact fun h=>by cases h
  have hS:Def (cN ws (bp ws 0).S ((bp ws 0).E 0)) m:=fun p d hp=>by rw[sH (by omega)];exact fun h=>by cases h
  exact⟨fun lvl=>mS hLm hSm hL hS _,hL,hS⟩
 |n+1,m,h=>by
  have ih:=lE ws n (m+1) (by omega);have im:=fC ws (n+1);have hLm:∀lvl x p d a q,eB ws (bp ws (n+1)) lvl x p d= .ok a q→p≤q:=fun lvl x p d a q h=>jW im h;have hSm:=iM (ws:=ws) im.S (im.E 0);have hL:∀lvl x p d,m≤p→eB ws (bp ws (n+1)) lvl x p d≠ .out:=fun lvl x p d hp=>uC im ih hp;have hS:Def (cN ws (bp ws (n+1)).S ((bp ws (n+1)).E 0)) m:=fun p d hp=>s7 (im.E 0) (ih.S.up (by omega)) ((ih.E 0).up (by omega));exact⟨fun lvl=>mS hLm hSm hL hS _,hL,hS⟩
theorem Rs.xS {α β:Type}{r:Rs α}{f:α→β}{b:β}{q:Nat}(h:r.map f= .ok b q):∃a,r= .ok a q∧b=f a:=by
 unfold Rs.map at h;obtain⟨a,p,h1,h⟩:=Rs.bn h;injection h with h2 h3
 exact⟨a,by rw[h1,h3],h2.symm⟩
theorem pV {E0:Nat→Nat→Rs Ex}{T:Nat→Nat→Rs Tm}{n m:Nat}{f:Nat→Nat→Rs Part}(h:f∈iv E0 T n m):f=(fun p d=>(E0 p d).map .inl)∨f=(fun p d=>(T p d).map .inr):=by
 unfold iv at h;rcases List.mem_append.1 h with h|h
 ·exact .inl (List.mem_replicate.1 h).2
 ·exact .inr (List.mem_replicate.1 h).2
theorem oc {E0:Nat→Nat→Rs Ex}{T:Nat→Nat→Rs Tm}(hE:ey E0)(hT:ey T){n m:Nat}:∀f∈iv E0 T n m,ey f:=fun f hf p d a q h=>by
 rcases pV hf with rfl|rfl
 ·obtain⟨x,h1,-⟩:=Rs.xS h
  exact hE _ _ _ _ h1
 ·obtain⟨x,h1,-⟩:=Rs.xS h
  exact hT _ _ _ _ h1
theorem ux {E0:Nat→Nat→Rs Ex}{T:Nat→Nat→Rs Tm}{k:Nat}(hE:Def E0 k)(hT:Def T k){n m:Nat}:∀f∈iv E0 T n m,Def f k:=fun f hf p d hp=>by
 rcases pV hf with rfl|rfl
 ·exact Rs.aR (hE _ _ hp) fun a q h=>fun h=>by cases h
 ·exact Rs.aR (hT _ _ hp) fun a q h=>fun h=>by cases h
theorem tw {ws:List Wd}{E0:Nat→Nat→Rs Ex}{T:Nat→Nat→Rs Tm}(hE:ey E0)(hT:ey T):ey (fV ws E0 T):=by
 intro p d x q h;unfold fV at h
 repeat' split at h
 ·cases h
 ·injection h with _ h;omega
 ·obtain⟨xs,p1,h1,h⟩:=Rs.bn h
  injection h with _ h
  have:=fq ws _ (fun f hf=>(List.mem_singleton.1 hf)▸fun p d a q h=>by have:=(nu h).1;omega) h1;omega
 ·cases h
 ·obtain⟨xs,p1,h1,h⟩:=Rs.bn h
  injection h with _ h
  have:=fq ws _ (oc hE hT) h1;omega
theorem vG {ws:List Wd}{E0:Nat→Nat→Rs Ex}{T:Nat→Nat→Rs Tm}(hE:ey E0)(hT:ey T){p d:Nat}(dE:Def E0 (p+1))(dT:Def T (p+1)):fV ws E0 T p d≠ .out:=by
 unfold fV
 repeat' split
 ·exact fun h=>by cases h
 ·exact fun h=>by cases h
 ·refine Rs.aR (fU ws _ d fun f hf=>(List.mem_singleton.1 hf)▸⟨fun p d a q h=>by have:=(nu h).1;omega,fun p d _=>pD ws p⟩) fun xs p1 h1=>fun h=>by cases h
 ·exact fun h=>by cases h
 ·refine Rs.aR (fU ws _ d fun f hf=>⟨oc hE hT f hf,ux (dE.up (by omega)) (dT.up (by omega)) f hf⟩) fun xs p1 h1=>fun h=>by cases h
theorem np (ws:List Wd):∀n,ey (lI ws n)
 |0=>fun _ _ _ _ h=>(by cases h)
 |n+1=>fun p d x q h=>tw ((fC ws (n+1)).E 0) (np ws n) p d x q h
theorem vh {ws:List Wd}{p:Nat}(h:ws.length≤p)(E0:Nat→Nat→Rs Ex)(T:Nat→Nat→Rs Tm)(d:Nat):fV ws E0 T p d= .bad p false:=by
 unfold fV;rw[uf h];rfl
theorem pc (ws:List Wd):∀n m,ws.length<n+1+m→Def (lI ws (n+1)) m
 |0,m,h=>fun p d hp=>by
  show fV ws _ _ p d≠ .out;rw[vh (by omega)];exact fun h=>by cases h
 |n+1,m,h=>fun p d hp=>by
  have hE:=(lE ws (n+1) (m+1) (by omega)).E 0;have hT:=pc ws n (m+1) (by omega);exact vG ((fC ws (n+2)).E 0) (np ws (n+1)) (hE.up (by omega)) (hT.up (by omega))
def jJ (ws:List Wd):Rs Ex:=(bp ws (ws.length+1)).E 0 0 0
def iw (ws:List Wd):Rs Tm:=lI ws (ws.length+1) 0 0
theorem rB (ws:List Wd):jJ ws≠ .out:=(lE ws ws.length 0 (by omega)).E 0 0 0 (Nat.le_refl _)
theorem nz (ws:List Wd):iw ws≠ .out:=pc ws ws.length 0 (by omega) 0 0 (Nat.le_refl _)
section
variable {P:Program} {n:Nat} {F:List (Nat × Value)} {w:World} {v v':Value}
theorem ab.oX {fn:Func}{R:Ending→World→Prop}{e:Exit}{p q s g:Nat}{ty t:TypeId}{cs:Array Value}{dsc:TypeDesc}(hr:fn.results= #[.cell p ty, .tmp q, .tmp s]) (hl:look F p=some (.pointer (some ⟨g,0,none⟩))) (hq:look F q=some v) (hq':look F s=some v') (hb:aE w g t cs) (hu:P.underlying ty=some dsc)
  (hd:(match dsc with| .struct _| .array _ _=>true|_=>false)=true) {m:Nat} (hs:b6 P ty m=true) (hm:cs.size=m) (he:e= .ret∨e= .normal) (h:R (.returned (.tuple #[.agg cs,v,v'])) w):ab (bodyPost P fn R) e n F w:=by
 refine ab.end_ (fun a ha=> ?_) he h
 ·have hp':a.tmps[p]?.getD undef= .pointer (some ⟨g,0,none⟩):=by simp[ha.slot p _ hl]
  have e:=run_loadVar_row (P:=P) w g t ty cs (0,0) dsc hb hu (by cases dsc<;>first|rfl|(simp at hd)) (by obtain⟨inf,hi,hsz⟩:=bb hs;rw[hi,hm,←hsz];rfl);simp[results,hr,hp',asAddr,e,ha.slot q _ hq,ha.slot s _ hq']
end
def gg:Tm:= .mk 0 [] [] []
def j6:Ex:= .mk 0 0 [] []
theorem dC.zero (W:World)(S:Nat→Prop):dC W S gg (.agg #[.int .i64 0, .string (strOf []), .slice none 0 0, .slice none 0 0]):=
 .mk (vs:=[]) (us:=[]) rfl rfl (by simp) (by simp) (by unfold bu;decide) (by simp) (by simp) (fun i e v h=>by simp at h) (fun i e v h=>by simp at h) (fun h=>absurd rfl h) (fun h=>absurd rfl h)
theorem bX.zero (W:World)(S:Nat→Prop):bX W S j6 (.agg #[.int .i64 0, .int .i64 0, .string (strOf []), .slice none 0 0]):=
 .mk (vs:=[]) rfl (by simp) (by unfold bu;decide) (by unfold bu;decide) (by simp) (by simp) (fun i e v h=>by simp at h) (fun h=>absurd rfl h)
def bM (l:List Nat):Tm × Nat × Int:=if(bU l (iw (aN l).1)).2≠0 then(gg,(bU l (iw (aN l).1)).1,(bU l (iw (aN l).1)).2) else match iw (aN l).1 with
 | .ok x _=>if bK x=true then(x,0,0) else(gg,0,13)
 |_=>(gg,0,0)
theorem ny {α:Type}{l:List Nat}{r:Rs α}(h:(bU l r).2=0):(bU l r).1=0:=by
 unfold bU at h⊢
 by_cases h4:4000<l.length
 ·rw[if_pos h4]
 ·rw[if_neg h4] at h⊢
  cases h2:(aN l).2 with
  |some p=>rw[h2] at h;cases h
  |none=>
   rw[h2] at h
   cases r with
   |out=>rfl
   |bad p ov=>cases ov<;>cases h
   |ok a p=>
    dsimp only at h⊢;split at h
    ·rename_i h3;rw[if_pos h3]
    ·cases h
theorem AJ.kept {gt:Nat}{w W0 W W':World}{a:Tm}{g:Nat}(h:AJ gt W0 a W)(hgt:gt<w.heap.size)(h2:w.heap.size≤g)(h3:g<W0.heap.size)(h4:W0.heap.size≤W.heap.size)(h5:W.heap.size≤W'.heap.size)(h6:∀k,k<W.heap.size→k≠g→W'.heap[k]? =W.heap[k]?):AJ gt w a W':=by
 obtain⟨S,v,h7,h8,h9⟩:=h;refine⟨S,v,?_,h8.mono (fun _ h=>h) (fun p hp=>World.cell?_of_block (h6 _ (h9 _ hp).2 (by have:=(h9 _ hp).1;omega))),fun b hb=>⟨by have:=(h9 b hb).1;omega,by have:=(h9 b hb).2;omega⟩⟩;unfold aE at h7⊢;rw[h6 gt (by omega) (by omega)];exact h7
theorem ky (w:World):(Instr.build 71 #[]).run Tryz.prog w= .ok (.agg #[.int .i64 0, .string (strOf []), .slice none 0 0, .slice none 0 0]) w:=by kernel_rfl
theorem kB (w:World):(Instr.build 105 #[]).run Tryz.prog w= .ok (.agg #[.int .i64 0, .int .i64 0, .string (strOf []), .slice none 0 0]) w:=by kernel_rfl
theorem oW (l:List Nat)(w:World)(hl:∀x∈l,x<256)(hlen:l.length≤9223372036854775807):
  Calls Tryz.prog 81 #[.string (strOf l)] w fun e w'=>Below w.heap.size w w'∧∃(v:Value) (S:Nat→Prop),e= .returned (.tuple #[v, .int .i64 ((bM l).2.1:Int), .int .i64 (bM l).2.2])∧dC w' S (bM l).1 v∧∀b,S b→w.heap.size≤b∧b<w'.heap.size:=by
 have bel:=Below.refl w.heap.size w;refine Zs 27 Tryz.func81 ?_;refine ah ?_;refine Zl aK ?_;intro g2 w1 n2;have e2:=Nat.le_trans bel.size n2.ge;replace bel:=bel.step n2.below;have k2:=n2.an;refine Za ?_;refine Za ?_;refine aS 0 2 3 4 (az ?_);refine Zl aK ?_;intro g5 w2 n5;have e5:=Nat.le_trans bel.size n5.ge;have l5:=Nat.lt_of_lt_of_le k2.lt n5.ge;replace bel:=bel.step n5.below;replace k2:=k2.step n5.below;have k5:=n5.an;refine aL 0 2 3 4 5 (az ?_);refine Zm ?_;refine Zv (aa.makeFunc (v:= .func (.func 127) #[] #[.pointer (some ⟨g5,0,none⟩)]) rfl (show fc _ _=some [] from rfl) (show fc _ _=some [.pointer (some ⟨g5,0,none⟩)] from rfl) rfl) ?_;have hg5:=k5.lt
 have hps:=nr l hl hlen 127 [.pointer (some ⟨g5,0,none⟩)] g5 (iw (aN l).1) (AJ g5) (AJ g5 w2) w2 (Nat.le_of_lt hg5) (fun args w=>aF Tryz.func127 (by kernel_rfl) rfl args w) (nz _)
  (fun a W0 W W' g h1 h2 h3 h4 h5 h6=>h1.kept hg5 h2 h3 h4 h5 h6)
  (fun K hK hw h2 hg hA W hb hp=>by
   have:=tk K hK ((aN l).1.length+1) g5 g5 W hp (k5.step hb) (by omega) (Nat.le_refl _) (fun ad ha=>by have:=hA ad ha;omega) (by rw[hw];exact nz _);rw[hw] at this;exact this)
 refine Zc (Ze Tryz.func126) (hps) ?_;rintro e w6 ⟨hb6,kp6,rfl,hok⟩;refine⟨_,rfl,?_⟩;have bel6:Below w.heap.size w w6:=bel.trans (hb6.mono e5);have k2':aE w6 g2 71 _:=(show w6.heap[g2]? =w2.heap[g2]? from hb6.block g2 l5).trans k2;have hlt6:=bel6.size;clear bel k5 k2;have bel:=bel6;have k2:=k2';have hA:=ny (l:=l) (r:=iw (aN l).1);obtain⟨z,hz⟩:∃z,(bU l (iw (aN l).1)).2=z:=⟨_,rfl⟩;obtain⟨y,hy⟩:∃y,(bU l (iw (aN l).1)).1=y:=⟨_,rfl⟩;rw[hz] at hok hA⊢;rw[hy] at hA⊢
 by_cases hz0:z=0
 ·obtain⟨x,q,hx,S,v,k5,hrep,hS⟩:=hok hz0
  have hps2:bM l=if bK x=true then(x,0,0) else(gg,0,13):=by unfold bM;rw[if_neg (by rw[hz];exact fun h=>h hz0),hx]
  obtain rfl:=hA hz0;subst hz0;have hrb:dR w6 w6.heap.size x v:=hrep.mono (fun b hb=>(hS b hb).2) (fun _ _=>rfl);obtain⟨A,c,A',c',rfl⟩:=hrep.form;have hri:=vO x w6.heap.size _ w6 hrb (Nat.le_refl _);have k5:aE w6 g5 71 #[.int .i64 x.op, .string (strOf x.name), .slice A x.exprs.length c, .slice A' x.aw.length c']:=k5
  generalize bK x=b at *
  refine Zm ?_;refine Zx ?_;refine Zx ?_;refine Za ?_;refine Za ?_;refine ba 0 2 3 4 5 6 7 (aH (ah ?_));refine Zm ?_;refine Zv ((aa.fK rfl rfl rfl).lC (rfl)) ?_;refine Zm ?_;refine Seq.av (aa.dx rfl rfl Tryz.underlying71 rfl k5 (m:=4) (by kernel_rfl) rfl) rfl rfl rfl rfl rfl ?_;refine Seq.x3 (Ze Tryz.func99) rfl rfl rfl rfl rfl (hri) ?_;rintro e w7 ⟨rfl,hb7⟩;refine⟨_,rfl,?_⟩;replace bel:=bel.step hb7;replace k2:=k2.step hb7;replace k5:=k5.step hb7;refine Seq.av (aa.not rfl rfl) rfl rfl rfl rfl rfl ?_;refine Zv (aa.cr rfl rfl rfl) ?_;have hw67:=hb7.size
  cases b with
  |true=>
   refine bO 0 2 3 4 5 6 7 20 (Zt ?_);refine Cd.aI rfl rfl ?_;refine Cd.skip (aH (ah ?_));refine Zm ?_;refine jq ?_;refine cw 0 2 3 4 5 6 7 20 22 (Zt ?_);refine Cd.aI rfl (by simp) ?_;refine Cd.skip (az ?_);refine ZW 4 Tryz.underlying71 k5 ?_;refine Zo 4 k2 ?_;intro w3 pw3;replace bel:=bel.put k2 pw3 e2;replace k5:=k5.put pw3 (by omega);replace k2:=pw3.an;refine Za ?_;refine Za ?_;refine cw 0 2 3 4 5 6 7 20 22 (Zt (Cd.ret ?_));refine ab.oX rfl rfl rfl rfl k2 Tryz.underlying71 rfl (m:=4) (by kernel_rfl) rfl (.inl rfl) ?_;rw[hps2,if_pos rfl];have hsz:=pw3.size;refine⟨bel, .agg #[.int .i64 x.op, .string (strOf x.name), .slice A x.exprs.length c, .slice A' x.aw.length c'],S,rfl,hrep.mono (fun _ h=>h) fun p hp=>World.cell?_of_block ?_,fun b hb=> ?_⟩
   ·have:=hS _ hp
    exact(pw3.grown.block _ (by omega) (fun e=>by injection e with e;omega)).trans (hb7.block _ this.2)
   ·have:=hS b hb
    have:=hb6.size;omega
  |false=>
   refine bO 0 2 3 4 5 6 7 20 (Zt ?_);refine Cd.aM rfl rfl ?_;refine Zr ?_;refine Za ?_;refine bO 0 2 3 4 5 6 7 20 (aH (ah ?_));refine Zm ?_;refine jq ?_;refine cw 0 2 3 4 5 6 7 20 22 (Zt ?_);refine Cd.aM rfl (by simp) ?_;refine ah ?_;refine Zv (aa.build rfl rfl (ky _)) ?_;refine Zm ?_;refine Zm ?_;refine Zo 4 k2 ?_;intro w3 pw3;replace bel:=bel.put k2 pw3 e2;replace k5:=k5.put pw3 (by omega);replace k2:=pw3.an;refine Za ?_;refine Za ?_;refine cw 0 2 3 4 5 6 7 20 22 (Zt (Cd.ret (ab.ae ?_)));refine ab.oX rfl rfl rfl rfl k2 Tryz.underlying71 rfl (m:=4) (by kernel_rfl) rfl (.inl rfl) ?_;rw[hps2,if_neg (by simp)];exact⟨bel, .agg #[.int .i64 0, .string (strOf []), .slice none 0 0, .slice none 0 0],fun _=>False,rfl,dC.zero _ _,fun b h=>h.elim⟩
 ·have hps2:bM l=(gg,y,z):=by unfold bM;rw[if_pos (by rw[hz];exact hz0),hy,hz]
  refine Zm ?_;refine Zx ?_;refine Zx ?_;refine Za ?_;refine Za ?_;refine ba 0 2 3 4 5 6 7 (aH (ah ?_));refine Zm ?_;refine Zv ((aa.fK rfl rfl rfl).jv (hz0)) ?_;refine Zm ?_;refine Seq.jd rfl rfl rfl rfl rfl rfl ?_;refine Seq.jd rfl rfl rfl rfl rfl rfl ?_;refine Seq.jd rfl rfl rfl rfl rfl rfl ?_;refine Zv (aa.bD rfl rfl rfl) ?_;refine bO 0 2 3 4 5 6 7 20 (Zt ?_);refine Cd.aI rfl rfl ?_;refine Cd.skip (aH (ah ?_));refine Zm ?_;refine jq ?_;refine cw 0 2 3 4 5 6 7 20 22 (Zt ?_);refine Cd.aM rfl (by simpa using hz0) ?_;refine ah ?_;refine Zv (aa.build rfl rfl (ky _)) ?_;refine Zm ?_;refine Zm ?_;refine Zo 4 k2 ?_;intro w3 pw3;replace bel:=bel.put k2 pw3 e2;replace k2:=pw3.an;refine Za ?_;refine Za ?_;refine cw 0 2 3 4 5 6 7 20 22 (Zt (Cd.ret (ab.ae ?_)));refine ab.oX rfl rfl rfl rfl k2 Tryz.underlying71 rfl (m:=4) (by kernel_rfl) rfl (.inl rfl) ?_;rw[hps2];exact⟨bel, .agg #[.int .i64 0, .string (strOf []), .slice none 0 0, .slice none 0 0],fun _=>False,rfl,dC.zero _ _,fun b h=>h.elim⟩
def AK (gt:Nat)(W0:World)(x:Ex)(W:World):Prop:=∃(S:Nat→Prop) (v:Value),aE W gt 105 v.cells∧bX W S x v∧∀b,S b→W0.heap.size≤b∧b<W.heap.size
theorem rK (K:Ctx)(hK:K.Ok)(n gt h:Nat)(W:World)(pw:PW K W 0 0 false)(kt:aE W gt 105 #[.int .i64 0, .int .i64 0, .string {data:= #[]}, .slice none 0 0]) (hg:gt<K.g) (hh:h≤gt) (hKA:∀ad,K.A=some ad→ad.block≠gt) (hne:(bp K.ws n).E 0 0 0≠ .out):
  Calls Tryz.prog 150 #[.pointer (some ⟨K.g,0,none⟩), .pointer (some ⟨gt,0,none⟩)] W (AM K h W ((bp K.ws n).E 0 0 0) (AK gt W)):=by
 have hcl:=(uk K hK n n (Nat.le_refl _)).2 0 (by omega) 0 0 W pw hne;have hlt:=pw.an.lt;have hle:=hK.le;have bel:=Below.refl W.heap.size W;refine Zs 5 Tryz.func150 ?_;refine Zr ?_;refine Zm ?_;rcases Rs.bZ hne with ⟨q,ov,hr⟩|⟨x,q,hr⟩
 ·rw[hr] at hcl⊢
  refine Seq.bJ (Ze Tryz.func151) rfl hcl ?_;rintro e w6 ⟨hf,rfl,d6,hp6⟩;refine⟨_,rfl,fun a ha=>⟨ha.defers,?_⟩⟩;exact⟨hf,rfl,d6,hp6⟩
 rw[hr] at hcl⊢;refine Zc (Ze Tryz.func151) (hcl) ?_;rintro e wq ⟨hf,v,rfl,pwq,S,hrep,hS⟩;refine⟨_,rfl,?_⟩;have kp0:=(Kp.refl W).fz pw.an hf;have k98:=kt.fz hf (by omega);have hs98:=k98.lt;have k98':=k98;obtain⟨A,c,rfl⟩:=hrep.form;have hq:=pwq.an.lt;clear bel;have bel:=Below.refl wq.heap.size wq;refine Zo 4 k98 ?_;intro w1 pw1;replace k98:=pw1.an;refine cZ 0 1 ?_;refine ab.du rfl (.inr rfl) ?_;have hsz:=pw1.size;have hbl:∀k,k≠gt→k<wq.heap.size→w1.heap[k]? =wq.heap[k]? :=fun k hk hl=>pw1.grown.block k hl (fun e=>hk (by injection e))
 have hrd:Reads w1 K.B 4 K.A K.ws.length (dQ K.ws):=⟨pwq.rd.1,fun h0=>by
  obtain⟨ad,e1,e2,e3⟩:=pwq.rd.2 h0;exact⟨ad,e1,e2,fun j u hu=>(World.cell?_of_block (by rw[ai];exact hbl _ (hKA ad e1) (by omega))).trans (e3 j u hu)⟩⟩
 have k98z:aE w1 gt 105 (Value.agg #[Value.int .i64 x.op,Value.int .i64 x.n,Value.string (strOf x.name),Value.slice A x.args.length c]).cells:=k98;have kgz:aE w1 K.g 219 _:=pwq.an.put pw1 (by omega);exact⟨⟨pw1.grown.os.trans hf.os,pw1.grown.tape.trans hf.tape,pw1.grown.output.trans hf.output,by have:=hf.size;omega,fun k hk hne=>(hbl k (by omega) (by omega)).trans (hf.block k (by omega) hne)⟩,kp0.put k98' pw1 trivial,⟨_,rfl⟩,⟨kgz,hrd,pwq.cj,pwq.cD⟩,S,_,k98z,hrep.mono (fun _ h=>h) (fun a ha=>World.cell?_of_block (hbl _ (by have:=(hS _ ha).1;have:=kt.lt;omega) (hS _ ha).2)),fun b hb=>⟨(hS b hb).1,by have:=(hS b hb).2;omega⟩⟩
def eG (l:List Nat):Ex × Nat × Int:=if(bU l (jJ (aN l).1)).2≠0 then(j6,(bU l (jJ (aN l).1)).1,(bU l (jJ (aN l).1)).2) else match jJ (aN l).1 with
 | .ok x _=>if cz x=true then(x,0,0) else(j6,0,13)
 |_=>(j6,0,0)
theorem AK.kept {gt:Nat}{w W0 W W':World}{a:Ex}{g:Nat}(h:AK gt W0 a W)(hgt:gt<w.heap.size)(h2:w.heap.size≤g)(h3:g<W0.heap.size)(h4:W0.heap.size≤W.heap.size)(h5:W.heap.size≤W'.heap.size)(h6:∀k,k<W.heap.size→k≠g→W'.heap[k]? =W.heap[k]?):AK gt w a W':=by
 obtain⟨S,v,h7,h8,h9⟩:=h;refine⟨S,v,?_,h8.mono (fun _ h=>h) (fun p hp=>World.cell?_of_block (h6 _ (h9 _ hp).2 (by have:=(h9 _ hp).1;omega))),fun b hb=>⟨by have:=(h9 b hb).1;omega,by have:=(h9 b hb).2;omega⟩⟩;unfold aE at h7⊢;rw[h6 gt (by omega) (by omega)];exact h7
theorem oq (l:List Nat)(w:World)(hl:∀x∈l,x<256)(hlen:l.length≤9223372036854775807):
  Calls Tryz.prog 115 #[.string (strOf l)] w fun e w'=>Below w.heap.size w w'∧∃(v:Value) (S:Nat→Prop),e= .returned (.tuple #[v, .int .i64 ((eG l).2.1:Int), .int .i64 (eG l).2.2])∧bX w' S (eG l).1 v∧∀b,S b→w.heap.size≤b∧b<w'.heap.size:=by
 have bel:=Below.refl w.heap.size w;refine Zs 27 Tryz.func115 ?_;refine ah ?_;refine Zl au ?_;intro g2 w1 n2;have e2:=Nat.le_trans bel.size n2.ge;replace bel:=bel.step n2.below;have k2:=n2.an;refine Za ?_;refine Za ?_;refine aS 0 2 3 4 (az ?_);refine Zl au ?_;intro g5 w2 n5;have e5:=Nat.le_trans bel.size n5.ge;have l5:=Nat.lt_of_lt_of_le k2.lt n5.ge;replace bel:=bel.step n5.below;replace k2:=k2.step n5.below;have k5:=n5.an;refine aL 0 2 3 4 5 (az ?_);refine Zm ?_;refine Zv (aa.makeFunc (v:= .func (.func 150) #[] #[.pointer (some ⟨g5,0,none⟩)]) rfl (show fc _ _=some [] from rfl) (show fc _ _=some [.pointer (some ⟨g5,0,none⟩)] from rfl) rfl) ?_;have hg5:=k5.lt
 have hps:=nr l hl hlen 150 [.pointer (some ⟨g5,0,none⟩)] g5 (jJ (aN l).1) (AK g5) (AK g5 w2) w2 (Nat.le_of_lt hg5) (fun args w=>aF Tryz.func150 (by kernel_rfl) rfl args w) (rB _)
  (fun a W0 W W' g h1 h2 h3 h4 h5 h6=>h1.kept hg5 h2 h3 h4 h5 h6)
  (fun K hK hw h2 hg hA W hb hp=>by
   have:=rK K hK ((aN l).1.length+1) g5 g5 W hp (k5.step hb) (by omega) (Nat.le_refl _) (fun ad ha=>by have:=hA ad ha;omega) (by rw[hw];exact rB _);rw[hw] at this;exact this)
 refine Zc (Ze Tryz.func126) (hps) ?_;rintro e w6 ⟨hb6,kp6,rfl,hok⟩;refine⟨_,rfl,?_⟩;have bel6:Below w.heap.size w w6:=bel.trans (hb6.mono e5);have k2':aE w6 g2 105 _:=(show w6.heap[g2]? =w2.heap[g2]? from hb6.block g2 l5).trans k2;have hlt6:=bel6.size;clear bel k5 k2;have bel:=bel6;have k2:=k2';have hA:=ny (l:=l) (r:=jJ (aN l).1);obtain⟨z,hz⟩:∃z,(bU l (jJ (aN l).1)).2=z:=⟨_,rfl⟩;obtain⟨y,hy⟩:∃y,(bU l (jJ (aN l).1)).1=y:=⟨_,rfl⟩;rw[hz] at hok hA⊢;rw[hy] at hA⊢
 by_cases hz0:z=0
 ·obtain⟨x,q,hx,S,v,k5,hrep,hS⟩:=hok hz0
  have hps2:eG l=if cz x=true then(x,0,0) else(j6,0,13):=by unfold eG;rw[if_neg (by rw[hz];exact fun h=>h hz0),hx]
  obtain rfl:=hA hz0;subst hz0;have hrb:jQ w6 w6.heap.size x v:=hrep.mono (fun b hb=>(hS b hb).2) (fun _ _=>rfl);obtain⟨A,c,rfl⟩:=hrep.form;have hri:=oF x w6.heap.size _ w6 hrb (Nat.le_refl _);have k5:aE w6 g5 105 #[.int .i64 x.op, .int .i64 x.n, .string (strOf x.name), .slice A x.args.length c]:=k5;have hri:Calls Tryz.prog 136 #[_] w6 fun en w'=>en= .returned (.bool (cz x))∧Grow w6 w':=hri
  generalize cz x=b at *
  refine Zm ?_;refine Zx ?_;refine Zx ?_;refine Za ?_;refine Za ?_;refine ba 0 2 3 4 5 6 7 (aH (ah ?_));refine Zm ?_;refine Zv ((aa.fK rfl rfl rfl).lC (rfl)) ?_;refine Zm ?_;refine Seq.av (aa.dx rfl rfl Tryz.underlying105 rfl k5 (m:=4) (by kernel_rfl) rfl) rfl rfl rfl rfl rfl ?_;refine Seq.x3 (Ze Tryz.func136) rfl rfl rfl rfl rfl (hri) ?_;rintro e w7 ⟨rfl,hb7⟩;refine⟨_,rfl,?_⟩;replace bel:=bel.step hb7;replace k2:=k2.step hb7;replace k5:=k5.step hb7;refine Seq.av (aa.not rfl rfl) rfl rfl rfl rfl rfl ?_;refine Zv (aa.cr rfl rfl rfl) ?_;have hw67:=hb7.size
  cases b with
  |true=>
   refine bO 0 2 3 4 5 6 7 20 (Zt ?_);refine Cd.aI rfl rfl ?_;refine Cd.skip (aH (ah ?_));refine Zm ?_;refine jq ?_;refine cw 0 2 3 4 5 6 7 20 22 (Zt ?_);refine Cd.aI rfl (by simp) ?_;refine Cd.skip (az ?_);refine ZW 4 Tryz.underlying105 k5 ?_;refine Zo 4 k2 ?_;intro w3 pw3;replace bel:=bel.put k2 pw3 e2;replace k5:=k5.put pw3 (by omega);replace k2:=pw3.an;refine Za ?_;refine Za ?_;refine cw 0 2 3 4 5 6 7 20 22 (Zt (Cd.ret ?_));refine ab.oX rfl rfl rfl rfl k2 Tryz.underlying105 rfl (m:=4) (by kernel_rfl) rfl (.inl rfl) ?_;rw[hps2,if_pos rfl];have hsz:=pw3.size;refine⟨bel, .agg #[.int .i64 x.op, .int .i64 x.n, .string (strOf x.name), .slice A x.args.length c],S,rfl,hrep.mono (fun _ h=>h) fun p hp=>World.cell?_of_block ?_,fun b hb=> ?_⟩
   ·have:=hS _ hp
    exact(pw3.grown.block _ (by omega) (fun e=>by injection e with e;omega)).trans (hb7.block _ this.2)
   ·have:=hS b hb
    have:=hb6.size;omega
  |false=>
   refine bO 0 2 3 4 5 6 7 20 (Zt ?_);refine Cd.aM rfl rfl ?_;refine Zr ?_;refine Za ?_;refine bO 0 2 3 4 5 6 7 20 (aH (ah ?_));refine Zm ?_;refine jq ?_;refine cw 0 2 3 4 5 6 7 20 22 (Zt ?_);refine Cd.aM rfl (by simp) ?_;refine ah ?_;refine Zv (aa.build rfl rfl (kB _)) ?_;refine Zm ?_;refine Zm ?_;refine Zo 4 k2 ?_;intro w3 pw3;replace bel:=bel.put k2 pw3 e2;replace k5:=k5.put pw3 (by omega);replace k2:=pw3.an;refine Za ?_;refine Za ?_;refine cw 0 2 3 4 5 6 7 20 22 (Zt (Cd.ret (ab.ae ?_)));refine ab.oX rfl rfl rfl rfl k2 Tryz.underlying105 rfl (m:=4) (by kernel_rfl) rfl (.inl rfl) ?_;rw[hps2,if_neg (by simp)];exact⟨bel, .agg #[.int .i64 0, .int .i64 0, .string (strOf []), .slice none 0 0],fun _=>False,rfl,bX.zero _ _,fun b h=>h.elim⟩
 ·have hps2:eG l=(j6,y,z):=by unfold eG;rw[if_pos (by rw[hz];exact hz0),hy,hz]
  refine Zm ?_;refine Zx ?_;refine Zx ?_;refine Za ?_;refine Za ?_;refine ba 0 2 3 4 5 6 7 (aH (ah ?_));refine Zm ?_;refine Zv ((aa.fK rfl rfl rfl).jv (hz0)) ?_;refine Zm ?_;refine Seq.jd rfl rfl rfl rfl rfl rfl ?_;refine Seq.jd rfl rfl rfl rfl rfl rfl ?_;refine Seq.jd rfl rfl rfl rfl rfl rfl ?_;refine Zv (aa.bD rfl rfl rfl) ?_;refine bO 0 2 3 4 5 6 7 20 (Zt ?_);refine Cd.aI rfl rfl ?_;refine Cd.skip (aH (ah ?_));refine Zm ?_;refine jq ?_;refine cw 0 2 3 4 5 6 7 20 22 (Zt ?_);refine Cd.aM rfl (by simpa using hz0) ?_;refine ah ?_;refine Zv (aa.build rfl rfl (kB _)) ?_;refine Zm ?_;refine Zm ?_;refine Zo 4 k2 ?_;intro w3 pw3;replace bel:=bel.put k2 pw3 e2;replace k2:=pw3.an;refine Za ?_;refine Za ?_;refine cw 0 2 3 4 5 6 7 20 22 (Zt (Cd.ret (ab.ae ?_)));refine ab.oX rfl rfl rfl rfl k2 Tryz.underlying105 rfl (m:=4) (by kernel_rfl) rfl (.inl rfl) ?_;rw[hps2];exact⟨bel, .agg #[.int .i64 0, .int .i64 0, .string (strOf []), .slice none 0 0],fun _=>False,rfl,bX.zero _ _,fun b h=>h.elim⟩
def jD (c:Nat):Prop:=c≠32∧c≠9∧c≠10∧c≠35
theorem eC:∀(l:List Nat) (b:Bool) (c:Nat),l[cH l b]? =some c→jD c
 | [],b,c,h=>by simp at h
 |d::l,true,c,h=>by
  rw[se] at h;split at h
  ·exact eC l false c (by simpa using h)
  ·exact eC l true c (by simpa using h)
 |d::l,false,c,h=>by
  rw[mM] at h
  by_cases hb:iq d=true
  ·rw[if_pos hb] at h
   exact eC l false c (by simpa using h)
  ·rw[if_neg hb] at h
   by_cases h35:d=35
   ·rw[if_pos h35] at h
    exact eC l true c (by simpa using h)
   ·rw[if_neg h35] at h
    simp at h;subst h;unfold iq at hb;simp at hb;exact⟨hb.1.1,hb.1.2,hb.2,h35⟩
theorem tf {l:List Nat}{q c:Nat}(h:l[q+bS (l.drop q)]? =some c):jD c:=
 eC (l.drop q) false c (by rw[List.getElem?_drop];exact h)
theorem sb (l:List Nat):∀f p,(∀c,l[p]? =some c→jD c)→(∀x∈(fH f l p).1,∃c,l[x.pos]? =some c∧jD c)∧∀q,(fH f l p).2=some q→∃c,l[q]? =some c∧jD c
 |0,p,_=>⟨fun x h=>by simp[fH] at h,fun q h=>by simp[fH] at h⟩
 |f+1,p,hp=>by
  rcases Nat.lt_or_ge p l.length with hlt|hge
  ·have hc:l[p]? =some l[p]:=List.getElem?_eq_getElem hlt
   rw[je f l p hlt]
   cases hn:iP (l.drop p) with
   |none=>
    exact⟨fun x h=>by simp at h,fun q h=>by injection h with h;subst h;exact⟨_,hc,hp _ hc⟩⟩
   |some z=>
    obtain⟨k,t,n⟩:=z;obtain⟨h1,h2⟩:=sb l f (p+t.length+bS (l.drop (p+t.length))) (fun c h=>tf h);refine⟨fun x h=> ?_,h2⟩;rcases List.mem_cons.1 h with rfl|h
    ·exact⟨_,hc,hp _ hc⟩
    ·exact h1 x h
  ·rw[kP _ _ _ hge]
   exact⟨fun x h=>by simp at h,fun q h=>by simp at h⟩
theorem mD (l:List Nat):(∀x∈(aN l).1,∃c,l[x.pos]? =some c∧jD c)∧∀q,(aN l).2=some q→∃c,l[q]? =some c∧jD c:=
 sb l (l.length+1) (bS l) fun c h=>eC l false c h
theorem oR (l:List Nat)(p:Nat):endPos l p=l.length∨∃c,l[endPos l p]? =some c∧jD c:=by
 unfold endPos;rw[List.getD_eq_getElem?_getD]
 cases h:(aN l).1[p]? with
 |none=>exact .inl rfl
 |some x=>exact .inr ((mD l).1 x (List.mem_of_getElem? h))
theorem wF {α:Type}(l:List Nat)(r:Rs α):(bU l r=(0,0)∧l.length≤4000)∨(bU l r=(0,4)∧4000<l.length)∨(bU l r=(0,13)∧l.length≤4000)∨
  ∃p,bU l r=(p,11)∧l.length≤4000∧(p=l.length∨∃c,l[p]? =some c∧jD c):=by
 unfold bU
 by_cases h4:4000<l.length
 ·rw[if_pos h4];exact .inr (.inl ⟨rfl,h4⟩)
 ·rw[if_neg h4]
  have h4':l.length≤4000:=by omega
  cases h2:(aN l).2 with
  |some p=>exact .inr (.inr (.inr ⟨p,rfl,h4', .inr ((mD l).2 p h2)⟩))
  |none=>
   cases r with
   |out=>exact .inl ⟨rfl,h4'⟩
   |bad p ov=>
    cases ov with
    |true=>exact .inr (.inr (.inl ⟨rfl,h4'⟩))
    |false=>exact .inr (.inr (.inr ⟨_,rfl,h4',oR l p⟩))
   |ok a p=>
    dsimp only
    by_cases h3:p=(aN l).1.length
    ·rw[if_pos h3];exact .inl ⟨rfl,h4'⟩
    ·rw[if_neg h3];exact .inr (.inr (.inr ⟨_,rfl,h4',oR l p⟩))
theorem uw (l:List Nat):(∃t,bM l=(t,0,0)∧bK t=true∧l.length≤4000)∨(bM l=(gg,0,4)∧4000<l.length)∨(bM l=(gg,0,13)∧l.length≤4000)∨
  ∃p,bM l=(gg,p,11)∧l.length≤4000∧(p=l.length∨∃c,l[p]? =some c∧jD c):=by
 unfold bM;rcases wF l (iw (aN l).1) with ⟨h,h4⟩|⟨h,h4⟩|⟨h,h4⟩|⟨p,h,h4,hp⟩
 ·rw[h,if_neg (by simp)]
  have hz:∀(z:Tm × Nat × Int),True:=fun _=>trivial
  cases hr:iw (aN l).1 with
  |out=>exact absurd hr (nz _)
  |bad p ov=>
   exfalso;rw[hr] at h;unfold bU at h;rw[if_neg (by omega)] at h
   cases h2:(aN l).2 with
   |some p=>rw[h2] at h;cases h
   |none=>rw[h2] at h;cases ov<;>simp at h
  |ok x q=>
   dsimp only
   by_cases hx:bK x=true
   ·rw[if_pos hx];exact .inl ⟨x,rfl,hx,h4⟩
   ·rw[if_neg hx];exact .inr (.inr (.inl ⟨rfl,h4⟩))
 ·rw[h,if_pos (by simp)];exact .inr (.inl ⟨rfl,h4⟩)
 ·rw[h,if_pos (by simp)];exact .inr (.inr (.inl ⟨rfl,h4⟩))
 ·rw[h,if_pos (by simp)];exact .inr (.inr (.inr ⟨p,rfl,h4,hp⟩))
section
variable {α β:Type} {ws:List Wd} {j:Nat}
end
section
variable {α β:Type} {ws:List Wd}
end
section
variable {α:Type} {jQ:World→(Nat→Prop)→α→Value→Prop} {K:Ctx} {w1 w w6:World} {p:Nat} {o:Int} {dp bd:Bool} {pf:α→Nat→Int→Bool→Bool→Prop} {S:Nat→Bool} {x x6:α} {S' S6:Nat→Prop} {v v6:Value} {g7:Nat} {zt:TypeId}
end
section
variable {K:Ctx} {w1 w w6:World} {p:Nat} {o:Int} {dp bd:Bool} {S:Nat→Bool} {S':Nat→Prop} {v:Value} {g7 g8:Nat} {zt:TypeId} {n:Nat}
end
section
variable {α:Type} {ws:List Wd}
end
section
variable {α β:Type} {r:Rs α} {d p:Nat} {x:α} {o:Int} {dp bd:Bool}
end
section
variable {β:Type}
variable {p0 q d:Nat} {R:Rs β} {o:Int} {dp bd:Bool}
end
structure uv (lo hi:Nat)(S:Nat→Prop)(x:Tm)(v:Value)(W:World):Prop where
 rep:dC W S x v
 bd:∀b,S b→lo≤b∧b<hi
 dA:hi≤W.heap.size
theorem uv.step {lo hi:Nat}{S:Nat→Prop}{x:Tm}{v:Value}{W W':World}(r:uv lo hi S x v W)(h:Below W.heap.size W W'):uv lo hi S x v W':=
 ⟨r.rep.mono (fun _ h=>h) (fun a ha=>h.cell (Nat.lt_of_lt_of_le (r.bd _ ha).2 r.dA)),r.bd,Nat.le_trans r.dA h.size⟩
theorem uv.put {lo hi g:Nat}{T:TypeId}{cur cs:Array Value}{S:Nat→Prop}{x:Tm}{v:Value}{W W':World}(r:uv lo hi S x v W)(_k:aE W g T cur)(p:gI W W' g T cs){E:Prop}(_e:E)(hne:g<lo∨hi≤g:=by omega):uv lo hi S x v W':=
 ⟨r.rep.mono (fun _ h=>h) (fun a ha=>World.cell?_of_block (p.grown.block _ (Nat.lt_of_lt_of_le (r.bd _ ha).2 r.dA) (fun e=>by injection e with e;have:=r.bd _ ha;omega))),r.bd,Nat.le_trans r.dA (Nat.le_of_eq p.size.symm)⟩
open Go.ChangeShapes Go.WideShapes Go.Deep Go.RowKit
set_option maxRecDepth 100000 in
theorem yc {W:World}{base t:Nat}{v:Value}(hu:Tryz.prog.underlying t=some .string)(hv:Value.okWide Tryz.prog W .any base t v):∃l:List Nat,v= .string (strOf l)∧(∀x∈l,x<256)∧l.length≤9223372036854775807:=by
 obtain⟨s,rfl⟩:=okWide_string hu hv;simp only[Value.okWide,hu,Cell.okWide] at hv;have hs:(s.size:Int)≤9223372036854775807:=by simpa[Cell.ok,hu] using hv
 refine⟨bytesOf s,by rw[jE],tr s,?_⟩;have:(bytesOf s).length=s.size:=by rw[←bq,jE]
 omega
structure Ev where
 kind:Int
 id:List Nat
 a:List Nat
 b:List Nat
 text:List Nat
 day:Int
 at_:Int
 eQ:Int
 n:Int
deriving DecidableEq
def Ev.v (e:Ev):Value:= .agg #[.int .i64 e.kind, .string (strOf e.id), .string (strOf e.a), .string (strOf e.b), .string (strOf e.text), .int .i64 e.day, .int .i64 e.at_, .int .i64 e.eQ, .int .i64 e.n]
structure Ev.qk (e:Ev):Prop where
 kind:bu e.kind
 id:∀x∈e.id,x<256
 a:∀x∈e.a,x<256
 b:∀x∈e.b,x<256
 text:∀x∈e.text,x<256
 day:bu e.day
 at_:bu e.at_
 eQ:bu e.eQ
 n:bu e.n
 BE:e.id.length≤9223372036854775807
 la:e.a.length≤9223372036854775807
 lb:e.b.length≤9223372036854775807
 oe:e.text.length≤9223372036854775807
theorem lA:br Tryz.prog 29=some (some (.agg #[.int .i64 0, .string {data:= #[]}, .string {data:= #[]}, .string {data:= #[]}, .string {data:= #[]}, .int .i64 0, .int .i64 0, .int .i64 0, .int .i64 0])):=by kernel_rfl
def Ev.same (a b:Ev):Bool:=a.kind==b.kind&&((strOf a.id).toList==(strOf b.id).toList&&((strOf a.a).toList==(strOf b.a).toList&&((strOf a.b).toList==(strOf b.b).toList&&((strOf a.text).toList==(strOf b.text).toList&&(a.day==b.day&&(a.at_==b.at_&&(a.eQ==b.eQ&&a.n==b.n)))))))
set_option maxRecDepth 100000 in
theorem sm (a b:Ev)(w:World):(binOp .neq 29 a.v b.v).run Tryz.prog w= .ok (.bool (!(a.same b))) w:=by
 have hu:=Tryz.underlying29;unfold Ev.same Ev.v
 go_simp
 repeat' split
 all_goals simp_all
theorem zq {a b:Ev}(ha:a.qk)(hb:b.qk):a.same b=decide (a=b):=by
 unfold Ev.same;rw[fx ha.id hb.id,fx ha.a hb.a,fx ha.b hb.b,fx ha.text hb.text,Bool.eq_iff_iff]
 cases a
 cases b
 simp
theorem rb (op:BinOp)(x y:Operand)(a b:Array Value)(w:World):(eqGuard op 29 x y (.agg a) (.agg b)).run Tryz.prog w= .ok () w:=by
 have h:Tryz.prog.eqGuardType Tryz.prog.depth 29=false:=by kernel_rfl
 cases op<;>simp[eqGuard,program,h,Sem.run_bind,Sem.run]
def ik (e:Ev):Ev:=
 if e.kind=1 then {e with id:=[],a:=[],b:=[],text:=[],day:=0}
 else if e.kind=2 then {e with day:=0}
 else if e.kind=3 then {e with a:=[],day:=0,n:=0}
 else if e.kind=4 then {e with id:=[],a:=[],at_:=0,eQ:=0}
 else if e.kind=5 then {e with id:=[],a:=[],b:=[]}
 else if e.kind=6 then {e with id:=[],a:=[]}
 else if e.kind=7 then {e with id:=[]}
 else e
set_option maxHeartbeats 2000000 in
theorem vZ (e:Ev)(w:World):Calls Tryz.prog 34 #[e.v] w fun en w'=>en= .returned (ik e).v∧Grow w w':=by
 have bel:=Below.refl w.heap.size w;unfold Ev.v ik;refine Zs 39 Tryz.func34 ?_;refine ah ?_;refine Seq.box rfl rfl rfl rfl rfl ?_;intro g1 w1 n1;have e1:=Nat.le_trans bel.size n1.ge;replace bel:=bel.step n1.below;have k1:=n1.an;refine Zl lA ?_;intro g2 w2 n2;have e2:=Nat.le_trans bel.size n2.ge;have l2:=Nat.lt_of_lt_of_le k1.lt n2.ge;replace bel:=bel.step n2.below;replace k1:=k1.step n2.below;have k2:=n2.an;refine bk 0 1 2 (aH (ah ?_));refine Zf 0 Tryz.underlying29 ?_;refine ZL Tryz.underlying3 k1 ?_;refine aS 0 1 2 4 (Zt (Cd.block (ah ?_)));refine aX ?_;refine Za ?_;refine aL 0 1 2 4 5 (Zt ?_);refine Cd.ao rfl (fun h1=> ?_) (fun h1=> ?_)
 ·skip
  refine Zr ?_;refine Zf 1 Tryz.underlying29 ?_;refine Zq k1 ?_;intro w3 pw3;replace bel:=bel.put k1 pw3 e1;replace k2:=k2.put pw3 (by omega);replace k1:=pw3.an;refine Zf 2 Tryz.underlying29 ?_;refine Zq k1 ?_;intro w4 pw4;replace bel:=bel.put k1 pw4 e1;replace k2:=k2.put pw4 (by omega);replace k1:=pw4.an;refine Zf 3 Tryz.underlying29 ?_;refine Zq k1 ?_;intro w5 pw5;replace bel:=bel.put k1 pw5 e1;replace k2:=k2.put pw5 (by omega);replace k1:=pw5.an;refine Zf 4 Tryz.underlying29 ?_;refine Zq k1 ?_;intro w6 pw6;replace bel:=bel.put k1 pw6 e1;replace k2:=k2.put pw6 (by omega);replace k1:=pw6.an;refine Zf 5 Tryz.underlying29 ?_;refine Zq k1 ?_;intro w7 pw7;replace bel:=bel.put k1 pw7 e1;replace k2:=k2.put pw7 (by omega);replace k1:=pw7.an;refine aL 0 1 2 4 5 (ab.ag (az ?_));refine ZW 9 Tryz.underlying29 k1 ?_;refine Zo 9 k2 ?_;intro w8 pw8;replace bel:=bel.put k2 pw8 e2;replace k1:=k1.put pw8 (by omega);replace k2:=pw8.an;refine aL 0 1 2 4 5 (Zt (Cd.ret ?_));refine iH 9 k2 Tryz.underlying29 ?_;rw[if_pos h1];exact⟨rfl,bel⟩
 refine ah ?_;refine aX ?_;refine Za ?_;refine aV 0 1 2 4 5 12 (Zt ?_);refine Cd.ao rfl (fun h2=> ?_) (fun h2=> ?_)
 ·skip
  refine Zr ?_;refine Zf 5 Tryz.underlying29 ?_;refine Zq k1 ?_;intro w3 pw3;replace bel:=bel.put k1 pw3 e1;replace k2:=k2.put pw3 (by omega);replace k1:=pw3.an;refine aV 0 1 2 4 5 12 (ab.ag (az ?_));refine ZW 9 Tryz.underlying29 k1 ?_;refine Zo 9 k2 ?_;intro w4 pw4;replace bel:=bel.put k2 pw4 e2;replace k1:=k1.put pw4 (by omega);replace k2:=pw4.an;refine aV 0 1 2 4 5 12 (Zt (Cd.ret ?_));refine iH 9 k2 Tryz.underlying29 ?_;rw[if_neg h1];rw[if_pos h2];exact⟨rfl,bel⟩
 refine ah ?_;refine aX ?_;refine Za ?_;refine ba 0 1 2 4 5 12 15 (Zt ?_);refine Cd.ao rfl (fun h3=> ?_) (fun h3=> ?_)
 ·skip
  refine Zr ?_;refine Zf 2 Tryz.underlying29 ?_;refine Zq k1 ?_;intro w3 pw3;replace bel:=bel.put k1 pw3 e1;replace k2:=k2.put pw3 (by omega);replace k1:=pw3.an;refine Zf 5 Tryz.underlying29 ?_;refine Zq k1 ?_;intro w4 pw4;replace bel:=bel.put k1 pw4 e1;replace k2:=k2.put pw4 (by omega);replace k1:=pw4.an;refine Zf 8 Tryz.underlying29 ?_;refine Zq k1 ?_;intro w5 pw5;replace bel:=bel.put k1 pw5 e1;replace k2:=k2.put pw5 (by omega);replace k1:=pw5.an;refine ba 0 1 2 4 5 12 15 (ab.ag (az ?_));refine ZW 9 Tryz.underlying29 k1 ?_;refine Zo 9 k2 ?_;intro w6 pw6;replace bel:=bel.put k2 pw6 e2;replace k1:=k1.put pw6 (by omega);replace k2:=pw6.an;refine ba 0 1 2 4 5 12 15 (Zt (Cd.ret ?_));refine iH 9 k2 Tryz.underlying29 ?_;rw[if_neg h1];rw[if_neg h2];rw[if_pos h3];exact⟨rfl,bel⟩
 refine ah ?_;refine aX ?_;refine Za ?_;refine bO 0 1 2 4 5 12 15 20 (Zt ?_);refine Cd.ao rfl (fun h4=> ?_) (fun h4=> ?_)
 ·skip
  refine Zr ?_;refine Zf 1 Tryz.underlying29 ?_;refine Zq k1 ?_;intro w3 pw3;replace bel:=bel.put k1 pw3 e1;replace k2:=k2.put pw3 (by omega);replace k1:=pw3.an;refine Zf 2 Tryz.underlying29 ?_;refine Zq k1 ?_;intro w4 pw4;replace bel:=bel.put k1 pw4 e1;replace k2:=k2.put pw4 (by omega);replace k1:=pw4.an;refine Zf 6 Tryz.underlying29 ?_;refine Zq k1 ?_;intro w5 pw5;replace bel:=bel.put k1 pw5 e1;replace k2:=k2.put pw5 (by omega);replace k1:=pw5.an;refine Zf 7 Tryz.underlying29 ?_;refine Zq k1 ?_;intro w6 pw6;replace bel:=bel.put k1 pw6 e1;replace k2:=k2.put pw6 (by omega);replace k1:=pw6.an;refine bO 0 1 2 4 5 12 15 20 (ab.ag (az ?_));refine ZW 9 Tryz.underlying29 k1 ?_;refine Zo 9 k2 ?_;intro w7 pw7;replace bel:=bel.put k2 pw7 e2;replace k1:=k1.put pw7 (by omega);replace k2:=pw7.an;refine bO 0 1 2 4 5 12 15 20 (Zt (Cd.ret ?_));refine iH 9 k2 Tryz.underlying29 ?_;rw[if_neg h1];rw[if_neg h2];rw[if_neg h3];rw[if_pos h4];exact⟨rfl,bel⟩
 refine ah ?_;refine aX ?_;refine Za ?_;refine cw 0 1 2 4 5 12 15 20 26 (Zt ?_);refine Cd.ao rfl (fun h5=> ?_) (fun h5=> ?_)
 ·skip
  refine Zr ?_;refine Zf 1 Tryz.underlying29 ?_;refine Zq k1 ?_;intro w3 pw3;replace bel:=bel.put k1 pw3 e1;replace k2:=k2.put pw3 (by omega);replace k1:=pw3.an;refine Zf 2 Tryz.underlying29 ?_;refine Zq k1 ?_;intro w4 pw4;replace bel:=bel.put k1 pw4 e1;replace k2:=k2.put pw4 (by omega);replace k1:=pw4.an;refine Zf 3 Tryz.underlying29 ?_;refine Zq k1 ?_;intro w5 pw5;replace bel:=bel.put k1 pw5 e1;replace k2:=k2.put pw5 (by omega);replace k1:=pw5.an;refine cw 0 1 2 4 5 12 15 20 26 (ab.ag (az ?_));refine ZW 9 Tryz.underlying29 k1 ?_;refine Zo 9 k2 ?_;intro w6 pw6;replace bel:=bel.put k2 pw6 e2;replace k1:=k1.put pw6 (by omega);replace k2:=pw6.an;refine cw 0 1 2 4 5 12 15 20 26 (Zt (Cd.ret ?_));refine iH 9 k2 Tryz.underlying29 ?_;rw[if_neg h1];rw[if_neg h2];rw[if_neg h3];rw[if_neg h4];rw[if_pos h5];exact⟨rfl,bel⟩
 refine ah ?_;refine aX ?_;refine Za ?_;refine dr 0 1 2 4 5 12 15 20 26 31 (Zt ?_);refine Cd.ao rfl (fun h6=> ?_) (fun h6=> ?_)
 ·skip
  refine Zr ?_;refine Zf 1 Tryz.underlying29 ?_;refine Zq k1 ?_;intro w3 pw3;replace bel:=bel.put k1 pw3 e1;replace k2:=k2.put pw3 (by omega);replace k1:=pw3.an;refine Zf 2 Tryz.underlying29 ?_;refine Zq k1 ?_;intro w4 pw4;replace bel:=bel.put k1 pw4 e1;replace k2:=k2.put pw4 (by omega);replace k1:=pw4.an;refine dr 0 1 2 4 5 12 15 20 26 31 (ab.ag (az ?_));refine ZW 9 Tryz.underlying29 k1 ?_;refine Zo 9 k2 ?_;intro w5 pw5;replace bel:=bel.put k2 pw5 e2;replace k1:=k1.put pw5 (by omega);replace k2:=pw5.an;refine dr 0 1 2 4 5 12 15 20 26 31 (Zt (Cd.ret ?_));refine iH 9 k2 Tryz.underlying29 ?_;rw[if_neg h1];rw[if_neg h2];rw[if_neg h3];rw[if_neg h4];rw[if_neg h5];rw[if_pos h6];exact⟨rfl,bel⟩
 refine ah ?_;refine aX ?_;refine Za ?_;refine ct 0 1 2 4 5 12 15 20 26 31 35 (Zt ?_);refine Cd.ao rfl (fun h7=> ?_) (fun h7=> ?_)
 ·skip
  refine Zr ?_;refine Zf 1 Tryz.underlying29 ?_;refine Zq k1 ?_;intro w3 pw3;replace bel:=bel.put k1 pw3 e1;replace k2:=k2.put pw3 (by omega);replace k1:=pw3.an;refine ct 0 1 2 4 5 12 15 20 26 31 35 (ab.ag (az ?_));refine ZW 9 Tryz.underlying29 k1 ?_;refine Zo 9 k2 ?_;intro w4 pw4;replace bel:=bel.put k2 pw4 e2;replace k1:=k1.put pw4 (by omega);replace k2:=pw4.an;refine ct 0 1 2 4 5 12 15 20 26 31 35 (Zt (Cd.ret ?_));refine iH 9 k2 Tryz.underlying29 ?_;rw[if_neg h1];rw[if_neg h2];rw[if_neg h3];rw[if_neg h4];rw[if_neg h5];rw[if_neg h6];rw[if_pos h7];exact⟨rfl,bel⟩
 refine Cd.skip (ab.ag (az ?_));refine ZW 9 Tryz.underlying29 k1 ?_;refine Zo 9 k2 ?_;intro w3 pw3;replace bel:=bel.put k2 pw3 e2;replace k1:=k1.put pw3 (by omega);replace k2:=pw3.an;refine ct 0 1 2 4 5 12 15 20 26 31 35 (Zt (Cd.ret ?_));refine iH 9 k2 Tryz.underlying29 ?_;rw[if_neg h1,if_neg h2,if_neg h3,if_neg h4,if_neg h5,if_neg h6,if_neg h7];exact⟨rfl,bel⟩
theorem tI (n:Int)(w:World):Calls Tryz.prog 37 #[.int .i64 n] w fun en w'=>en= .returned (.bool (decide (0≤n)&&decide (n≤2932896)))∧Grow w w':=by
 have bel:=Below.refl w.heap.size w;refine Zs 9 Tryz.func37 ?_;refine ah ?_;refine Za ?_;refine cZ 0 2 (az ?_);refine Zm ?_;refine oo ?_;refine Zm ?_;refine ar.start ?_;refine bB (fun hcx=>aa.move rfl rfl) ?_;refine Zn (fun hcx=>aa.leq rfl rfl rfl) ?_;refine dL ?_;refine Za ?_;refine cZ 0 2 (Zt (Cd.ret ?_));refine aP ?_;exact⟨rfl,bel⟩
def mQ (e:Ev):Bool:=(!(decide (e.kind≠2)&&decide (e.kind≠3))||cg e.id)&&(!(decide (e.kind≠2)&&decide (e.kind≠7))||cg e.a)&&(!(decide (e.kind=1)||decide (e.kind=5))||(cg e.b&&decide (e.a≠e.b)))
set_option maxHeartbeats 1000000 in
theorem wi (e:Ev)(he:e.qk)(w:World):Calls Tryz.prog 35 #[e.v] w fun en w'=>en= .returned (.bool (mQ e))∧Grow w w':=by
 have bel:=Below.refl w.heap.size w;have ha:=he.a;have hb:=he.b;have h1:=fun W=>eH e.id W he.id he.BE;have h2:=fun W=>eH e.a W he.a he.la;have h3:=fun W=>eH e.b W he.b he.lb;unfold Ev.v mQ;refine Zs 62 Tryz.func35 ?_;refine ah ?_;refine Seq.box rfl rfl rfl rfl rfl ?_;intro g1 w1 n1;have e1:=Nat.le_trans bel.size n1.ge;replace bel:=bel.step n1.below;have k1:=n1.an;refine Za ?_;refine bk 0 1 2 (az ?_);refine Zf 0 Tryz.underlying29 ?_;refine ZL Tryz.underlying3 k1 ?_;refine jq ?_;refine Zm ?_;refine ar.start ?_;refine bB (fun hcx=>aa.aj 0 rfl rfl Tryz.underlying29 rfl (by kernel_rfl)) ?_;refine Zn (fun hcx=>aa.ak rfl rfl Tryz.underlying3 rfl k1 rfl) ?_;refine Zn (fun hcx=>aa.bT rfl rfl rfl) ?_;refine dL ?_;refine Za ?_;refine aS 0 1 2 3 (az ?_);refine Zf 0 Tryz.underlying29 ?_;refine ZL Tryz.underlying3 k1 ?_;refine jq ?_;refine Zm ?_;refine ar.start ?_;refine bB (fun hcx=>aa.aj 0 rfl rfl Tryz.underlying29 rfl (by kernel_rfl)) ?_;refine Zn (fun hcx=>aa.ak rfl rfl Tryz.underlying3 rfl k1 rfl) ?_;refine Zn (fun hcx=>aa.bT rfl rfl rfl) ?_;refine dL ?_;refine Za ?_;refine aL 0 1 2 3 4 (az ?_);refine Zf 0 Tryz.underlying29 ?_;refine ZL Tryz.underlying3 k1 ?_;refine aX ?_;refine Zm ?_;refine ar.start ?_;refine bB (fun hcx=>aa.aj 0 rfl rfl Tryz.underlying29 rfl (by kernel_rfl)) ?_;refine Zn (fun hcx=>aa.ak rfl rfl Tryz.underlying3 rfl k1 rfl) ?_;refine Zn (fun hcx=>aa.fK rfl rfl rfl) ?_;refine fh ?_;refine Za ?_;refine aV 0 1 2 3 4 5 (az ?_);refine Zm ?_;refine gU ?_;refine Zm ?_;refine ar.start ?_;refine bB (fun hcx=>aa.aj 1 rfl rfl Tryz.underlying29 rfl (by kernel_rfl)) ?_;refine Zn (fun hcx=>aa.ak rfl rfl Tryz.underlying9 rfl k1 rfl) ?_;refine ar.aW rfl rfl rfl rfl rfl rfl rfl (fun hcx=>Ze Tryz.func62) (fun hcx=>h1 _) ?_;intro w2 hw2;replace bel:=bel.step hw2;replace k1:=k1.step hw2;refine fh ?_;refine Zm ?_;refine ar.start ?_;refine bB (fun hcx=>aa.move rfl rfl) ?_;refine Zn (fun hcx=>aa.not rfl rfl) ?_;refine jL ?_;refine bB (fun hcx=>aa.aj 2 rfl rfl Tryz.underlying29 rfl (by kernel_rfl)) ?_;refine Zn (fun hcx=>aa.ak rfl rfl Tryz.underlying9 rfl k1 rfl) ?_;refine ar.aW rfl rfl rfl rfl rfl rfl rfl (fun hcx=>Ze Tryz.func62) (fun hcx=>h2 _) ?_;intro w3 hw3;replace bel:=bel.step hw3;replace k1:=k1.step hw3;refine ar.AU rfl rfl rfl rfl rfl rfl rfl rfl rfl rfl rfl ?_;refine dL ?_;refine Zm ?_;refine ar.start ?_;refine bB (fun hcx=>aa.move rfl rfl) ?_;refine Zn (fun hcx=>aa.not rfl rfl) ?_;refine jL ?_;refine bB (fun hcx=>aa.aj 3 rfl rfl Tryz.underlying29 rfl (by kernel_rfl)) ?_;refine Zn (fun hcx=>aa.ak rfl rfl Tryz.underlying9 rfl k1 rfl) ?_;refine ar.aW rfl rfl rfl rfl rfl rfl rfl (fun hcx=>Ze Tryz.func62) (fun hcx=>h3 _) ?_;intro w4 hw4;replace bel:=bel.step hw4;replace k1:=k1.step hw4;refine jL ?_;refine bB (fun hcx=>aa.aj 2 rfl rfl Tryz.underlying29 rfl (by kernel_rfl)) ?_;refine Zn (fun hcx=>aa.ak rfl rfl Tryz.underlying9 rfl k1 rfl) ?_;refine Zn (fun hcx=>aa.aj 3 rfl rfl Tryz.underlying29 rfl (by kernel_rfl)) ?_;refine Zn (fun hcx=>aa.ak rfl rfl Tryz.underlying9 rfl k1 rfl) ?_;refine Zn (fun hcx=>aa.kW (a:=e.a) (b:=e.b) rfl rfl rfl ha hb) ?_;refine ar.tv rfl rfl rfl rfl rfl rfl rfl rfl rfl rfl rfl ?_;refine ar.AU rfl rfl rfl rfl rfl rfl rfl rfl rfl rfl rfl ?_;refine dL ?_;refine Za ?_;refine aV 0 1 2 3 4 5 (Zt (Cd.ret ?_));refine aP ?_;exact⟨aO (aB (by simp)),bel⟩
def eh (s:List Nat):Bool:=decide ((bM s).2.2=0)&&decide (cQ (bM s).1=s)
theorem lh {l:List Nat}(h:(bM l).2.2=0):bK (bM l).1=true∧l.length≤4000:=by
 rcases uw l with ⟨t,h1,h2,h3⟩|⟨h1,-⟩|⟨h1,-⟩|⟨p,h1,-⟩
 ·rw[h1];exact⟨h2,h3⟩
 ·rw[h1] at h;cases h
 ·rw[h1] at h;cases h
 ·rw[h1] at h;cases h
theorem pJ {l:List Nat}(h:(bM l).2.2≠0):(bM l).1=gg:=by
 unfold bM at h⊢;split
 ·rfl
 ·rename_i h0
  rw[if_neg h0] at h
  cases hq:iw (aN l).1 with
  |ok x q=>
   rw[hq] at h;dsimp only at h⊢;split
   ·rename_i hx
    rw[if_pos hx] at h;exact absurd rfl h
   ·rfl
  |bad p o=>rfl
  |out=>rfl
theorem qg (w:World):(Instr.build 71 #[]).run Tryz.prog w= .ok (.agg #[.int .i64 0, .string (strOf []), .slice none 0 0, .slice none 0 0]) w:=by kernel_rfl
theorem nf (s:List Nat)(w:World)(hs:∀x∈s,x<256)(hlen:s.length≤9223372036854775807):
  Calls Tryz.prog 36 #[.string (strOf s)] w fun en w'=>Below w.heap.size w w'∧∃(v:Value) (S:Nat→Prop),en= .returned (.tuple #[v, .bool (eh s)])∧dC w' S (bM s).1 v∧∀b,S b→w.heap.size≤b∧b<w'.heap.size:=by
 have bel:=Below.refl w.heap.size w;have hps:=fun W=>oW s W hs hlen;have hok:= @lh s;have hno:= @pJ s;unfold eh;obtain⟨t,q,z,hP⟩:∃t q z,bM s=(t,q,z):=⟨_,_,_,rfl⟩;rw[hP] at hok hno⊢;simp only[hP] at hps;dsimp only at hok hno⊢;refine Zs 30 Tryz.func36 ?_;refine ah ?_;refine Zl aK ?_;intro g2 w1 n2;have e2:=Nat.le_trans bel.size n2.ge;replace bel:=bel.step n2.below;have k2:=n2.an;refine Za ?_;refine bk 0 2 3 (az ?_);refine Zm ?_;have q1:=bel.size;have q2:=k2.lt;refine Zc (Ze Tryz.func81) (hps _) ?_;rintro en w5 ⟨hb5,v,S,rfl,hrep,hS⟩;obtain⟨A1,c1,A2,c2,hvX⟩:=hrep.form;subst hvX;refine⟨_,rfl,?_⟩;replace bel:=bel.step hb5;replace k2:=k2.step hb5;have rs:uv _ w5.heap.size S t (.agg #[.int .i64 t.op, .string (strOf t.name), .slice A1 t.exprs.length c1, .slice A2 t.aw.length c2]) w5:=⟨hrep,hS,Nat.le_refl _⟩;refine Zm ?_;refine Zx ?_;refine Zx ?_;refine Zx ?_;refine Zl aK ?_;intro g4 w2 n4;have q4:=n4.ge;have e4:=Nat.le_trans bel.size n4.ge;have l4:=Nat.lt_of_lt_of_le k2.lt n4.ge;replace bel:=bel.step n4.below;replace k2:=k2.step n4.below;replace rs:=rs.step n4.below;have k4:=n4.an;refine Zo 4 k4 ?_;intro w3 pw3;replace bel:=bel.put k4 pw3 e4;replace k2:=k2.put pw3 (by omega);replace rs:=rs.put k4 pw3 e4;replace k4:=pw3.an;refine Za ?_;refine Za ?_;refine aL 0 2 3 4 6 (aH (ah ?_));have k4:aE _ g4 71 #[.int .i64 t.op, .string (strOf t.name), .slice A1 t.exprs.length c1, .slice A2 t.aw.length c2]:=k4;refine Zm ?_;refine jq ?_;refine aV 0 2 3 4 6 15 (Zt ?_);refine Cd.ao rfl (fun hz=> ?_) (fun hz=> ?_)
 ·skip
  refine ah ?_;refine Zv (aa.build rfl rfl (qg _)) ?_;refine Zo 4 k2 ?_;intro w4 pw4;replace bel:=bel.put k2 pw4 e2;replace rs:=rs.put k2 pw4 e2;replace k4:=k4.put pw4 (by omega);replace k2:=pw4.an;refine Za ?_;refine aV 0 2 3 4 6 15 (Zt (Cd.ret (ab.ae ?_)));refine ab.fW rfl rfl rfl k2 Tryz.underlying71 rfl (m:=4) (by kernel_rfl) rfl (.inl rfl) ?_;obtain rfl:=hno hz;exact⟨bel,_,fun _=>False,uu rfl (aB (by rw[decide_eq_false hz];rfl)),dC.zero _ _,fun b hb=>hb.elim⟩
 have hz:z=0:=Decidable.not_not.1 hz;obtain⟨hrt,h4⟩:=hok hz;obtain⟨hn2,hd2,hbt⟩:=jc hrt;have hpt:=fun W (hr:dR W W.heap.size t (.agg #[.int .i64 t.op, .string (strOf t.name), .slice A1 t.exprs.length c1, .slice A2 t.aw.length c2]))=>jH t _ W (by omega) hr;have hbd:=(iJ t.nodes t (Nat.le_refl _) hbt).2;have e1:iZ t=cQ t:=by unfold iZ;rw[if_pos hrt]
 rw[hrt,e1] at hpt
 have hor:(dy true (cQ t)=([],4)∧cQ t≠s)∨dy true (cQ t)=(cQ t,0):=by
  unfold dy;rw[if_neg (by decide)];split
  ·rename_i hl4
   exact .inl ⟨rfl,fun h=>by rw[h] at hl4;omega⟩
  ·exact .inr rfl
 obtain⟨⟨s1,n1⟩,hs1⟩:∃z,dy true (cQ t)=z:=⟨_,rfl⟩;rw[hs1] at hor hpt
 have hs256:∀x∈s1,x<256:=by
  rcases hor with ⟨h,-⟩|h
  ·injection h with h _;rw[h];simp
  ·injection h with h _;rw[h];exact hbd
 have hfin:(decide (n1=0)&&decide (s1=s))=(decide (z=0)&&decide (cQ t=s)):=by
  rcases hor with ⟨h,h2⟩|h
  ·injection h with h h3
   rw[h3,decide_eq_false h2];simp
  ·injection h with h h3
   rw[h,h3,decide_eq_true hz];rfl
 refine Cd.skip (az ?_);refine ZW 4 Tryz.underlying71 k4 ?_;refine Zc (Ze Tryz.func82) (hpt _ (rs.rep.mono (fun b hb=>Nat.lt_of_lt_of_le (rs.bd b hb).2 rs.dA) (fun _ _=>rfl))) ?_;rintro en w6 ⟨rfl,hb6⟩;refine⟨_,rfl,?_⟩;replace bel:=bel.step hb6;replace k2:=k2.step hb6;replace rs:=rs.step hb6;replace k4:=k4.step hb6;refine Zm ?_;refine Zx ?_;refine Zx ?_;refine Za ?_;refine Za ?_;refine ba 0 2 3 4 6 7 15 (az ?_);refine ZW 4 Tryz.underlying71 k4 ?_;refine Zm ?_;refine aX ?_;refine Zm ?_;refine ar.start ?_;refine bB (fun hcx=>aa.move rfl rfl) ?_;refine jL ?_;refine Zn (fun hcx=>aa.ck (a:=s1) (b:=s) rfl rfl rfl hs256 hs) ?_;refine dL ?_;refine Zo 4 k2 ?_;intro w4 pw4;replace bel:=bel.put k2 pw4 e2;replace rs:=rs.put k2 pw4 e2;replace k4:=k4.put pw4 (by omega);replace k2:=pw4.an;refine Za ?_;refine ba 0 2 3 4 6 7 15 (Zt (Cd.ret ?_));refine ab.fW rfl rfl rfl k2 Tryz.underlying71 rfl (m:=4) (by kernel_rfl) rfl (.inl rfl) ?_;rw[←hfin];exact⟨bel,_,S,rfl,rs.rep,fun b hb=>⟨by have:=(rs.bd b hb).1;omega,Nat.lt_of_lt_of_le (rs.bd b hb).2 rs.dA⟩⟩
def kK (op:Int):Int × Int:=
 if(5≤op∧op≤10)∨op=20 then(1,1) else if 11≤op∧op≤16 then(1,2) else if op=17∨op=18∨op=19 then(2,2) else(0,1)
theorem qv (op:Int)(w:World):Calls Tryz.prog 192 #[.int .i64 op] w fun e w'=>e= .returned (.tuple #[.int .i64 (kK op).1, .int .i64 (kK op).2])∧Grow w w':=by
 have bel:=Below.refl w.heap.size w;have ho:kK op=if(5≤op∧op≤10)∨op=20 then(1,1) else if 11≤op∧op≤16 then(1,2) else if op=17∨op=18∨op=19 then(2,2) else(0,1):=rfl
 generalize kK op=q at ho⊢
 refine Zs 27 Tryz.func192 ?_;refine ah ?_;refine Za ?_;refine Za ?_;refine bk 0 2 3 (aH (Cd.block (Cd.seq (ah ?_))));refine Zm ?_;refine oo ?_;refine Zm ?_;refine ar.start ?_;refine bB (fun hcx=>aa.move rfl rfl) ?_;refine Zn (fun hcx=>aa.leq rfl rfl rfl) ?_;refine dL ?_;refine Za ?_;refine aS 0 2 3 4 (Zt ?_);refine Cd.cond rfl (fun h=> ?_) (fun h=> ?_)
 ·skip
  refine Cd.skip (Zt ?_);refine Cd.aM rfl h ?_;simp at h;refine ah ?_;refine Za ?_;refine Za ?_;refine aS 0 2 3 4 (Zt (Cd.ret (ab.af (ab.ae ?_))));refine cG ?_;rw[if_pos (by omega)] at ho;subst ho;exact⟨rfl,bel⟩
 ·skip
  refine Zr ?_;refine Zm ?_;refine aX ?_;refine Za ?_;refine aS 0 2 3 4 (Zt ?_);simp at h;refine Cd.ao rfl (fun hc=> ?_) (fun hc=> ?_)
  ·skip
   refine ah ?_;refine Za ?_;refine Za ?_;refine aS 0 2 3 4 (Zt (Cd.ret (ab.af (ab.ae ?_))));refine cG ?_;rw[if_pos (by omega)] at ho;subst ho;exact⟨rfl,bel⟩
  ·rw[if_neg (by omega)] at ho
   refine ah ?_;refine Zm ?_;refine oo ?_;refine Zm ?_;refine ar.start ?_;refine bB (fun hcx=>aa.move rfl rfl) ?_;refine Zn (fun hcx=>aa.leq rfl rfl rfl) ?_;refine dL ?_;refine Za ?_;refine aL 0 2 3 4 13 (Zt ?_);refine Cd.cond rfl (fun h3=> ?_) (fun h3=> ?_)
   ·simp at h3
    refine ah ?_;refine Za ?_;refine Za ?_;refine aL 0 2 3 4 13 (Zt (Cd.ret (ab.af (ab.ae ?_))));refine cG ?_;rw[if_pos (by omega)] at ho;subst ho;exact⟨rfl,bel⟩
   ·simp at h3
    rw[if_neg (by omega)] at ho;refine Cd.seq (ah ?_);refine Zm ?_;refine aX ?_;refine Za ?_;refine aV 0 2 3 4 13 20 (Zt ?_);refine Cd.cond rfl (fun h4=> ?_) (fun h4=> ?_)
    ·skip
     refine Cd.skip (Zt ?_);refine Cd.aM rfl h4 ?_;simp at h4;refine ah ?_;refine Za ?_;refine Za ?_;refine aV 0 2 3 4 13 20 (Zt (Cd.ret (ab.af (ab.ae ?_))));refine cG ?_;rw[if_pos (by omega)] at ho;subst ho;exact⟨rfl,bel⟩
    ·simp at h4
     refine ah ?_;refine Zm ?_;refine aX ?_;refine Za ?_;refine aV 0 2 3 4 13 20 (Zt ?_);refine Cd.cond rfl (fun h5=> ?_) (fun h5=> ?_)
     ·skip
      refine Cd.skip (Zt ?_);refine Cd.aM rfl h5 ?_;simp at h5;refine ah ?_;refine Za ?_;refine Za ?_;refine aV 0 2 3 4 13 20 (Zt (Cd.ret (ab.af (ab.ae ?_))));refine cG ?_;rw[if_pos (by omega)] at ho;subst ho;exact⟨rfl,bel⟩
     ·simp at h5
      refine Zr ?_;refine Zm ?_;refine aX ?_;refine Za ?_;refine aV 0 2 3 4 13 20 (Zt ?_);refine Cd.cond rfl (fun h6=> ?_) (fun h6=> ?_)
      ·simp at h6
       refine ah ?_;refine Za ?_;refine Za ?_;refine aV 0 2 3 4 13 20 (Zt (Cd.ret (ab.af (ab.ae ?_))));refine cG ?_;rw[if_pos (by omega)] at ho;subst ho;exact⟨rfl,bel⟩
      ·simp at h6
       rw[if_neg (by omega)] at ho;refine Cd.skip (ab.ag (az ?_));refine Za ?_;refine Za ?_;refine aV 0 2 3 4 13 20 (Zt (Cd.ret ?_));refine cG ?_;subst ho;exact⟨rfl,bel⟩
mutual
def dD:Ex→Int
 | .mk op _ _ l=>if op=21 then(if(kr l).getD 0 0=2∧(kr l).getD 1 0=(kr l).getD 2 0 then(kr l).getD 1 0 else 0) else if∀k∈kr l,k=(kK op).1 then(kK op).2 else 0
def kr:List Ex→List Int
 | []=>[]
 |e::r=>dD e::kr r
end
theorem lj:∀l,kr l=l.map dD
 | []=>by rw[kr];rfl
 |e::r=>by rw[kr,lj r];rfl
theorem xJ {e:Ex}{a b c:Ex}(h:e.op=21)(hl:e.args=[a,b,c]):dD e=if dD a=2∧dD b=dD c then dD b else 0:=by
 cases e with|mk op n nm l=>
 have h:op=21:=h;have hl:l=[a,b,c]:=hl;rw[dD,if_pos h,lj,hl];rfl
theorem yi {e:Ex}(h:e.op≠21):dD e=if∀x∈e.args,dD x=(kK e.op).1 then(kK e.op).2 else 0:=by
 cases e with|mk op n nm l=>
 have h:op≠21:=h;rw[dD,if_neg h,lj];show(if _ then(kK op).2 else 0)=if∀x∈l,dD x=(kK op).1 then(kK op).2 else 0;simp only[List.forall_mem_map]
theorem qX (N:Nat):∀(e:Ex) (B:Nat) (v:Value) (w:World),e.nodes≤N→bQ e=true→jQ w B e v→B≤w.heap.size→Calls Tryz.prog 143 #[v] w fun en w'=>en= .returned (.int .i64 (dD e))∧Grow w w':=by
 induction N with
 |zero=>intro e B v w hN;have:=e.bI;omega
 |succ N ih=>
 intro e B v w hN hbt hrep hB;obtain⟨A,c,rfl,hv⟩:=hrep.open;have bel:=Below.refl w.heap.size w;obtain⟨hhd,hargs⟩:=j2 hbt;have har:=mX (lu hhd).1;have dK:=hv.dK
 have harg:∀k x,e.args[k]? =some x→∃ad A' c',A=some ad∧(∀W,Below w.heap.size w W→∀(j:Nat) (u:Value),([.int .i64 x.op, .int .i64 x.n, .string (strOf x.name), .slice A' x.args.length c']:List Value)[j]? =some u→W.cell? ((ad.add (k*4)).add j)=some u)∧∀W,Below w.heap.size w W→Calls Tryz.prog 143 #[.agg #[.int .i64 x.op, .int .i64 x.n, .string (strOf x.name), .slice A' x.args.length c']] W fun en w'=>en= .returned (.int .i64 (dD x))∧Grow W w':=fun k x hx=>by
  obtain⟨ad,A',c',e1,hbl,hrx,hc⟩:=hv.arg k x hx;have hxm:=List.mem_of_getElem? hx;have hxn:=Ex.eD hxm;exact⟨ad,A',c',e1,fun W hb j u hj=>((hb.mono hB).cell (p:=(ad.add (k*4)).add j) (by rw[ai,ai];exact hbl)).trans (hc j u hj),fun W hb=>ih x B _ W (by omega) (hargs x hxm) (hrx.below (hb.mono hB)) (Nat.le_trans hB hb.size)⟩
 refine Zs 55 Tryz.func143 ?_;refine ah ?_;refine Seq.box rfl rfl rfl rfl rfl ?_;intro g1 w1 n1;have e1:=Nat.le_trans bel.size n1.ge;replace bel:=bel.step n1.below;have k1:=n1.an;refine Za ?_;refine bk 0 1 2 (aH (ah ?_));refine Zf 0 Tryz.underlying105 ?_;refine ZL Tryz.underlying3 k1 ?_;refine aX ?_;refine aS 0 1 2 12 (Zt ?_);refine Cd.ao rfl (fun hc=> ?_) (fun hc=> ?_)
 ·obtain⟨a,b,d,hl⟩:∃a b d,e.args=[a,b,d]:=by
   have h3:=har.2.2.2.2.2 hc
   match h:e.args with
   | [a,b,d]=>exact⟨a,b,d,rfl⟩
   | []| [_]| [_,_]|_::_::_::_::_=>rw[h] at h3;simp at h3
  have hki:=xJ hc hl;rw[hl] at harg;obtain⟨ad,A1,c1,rfl,hc1,hr1⟩:=harg 0 a rfl;obtain⟨ad',A2,c2,e2,hc2,hr2⟩:=harg 1 b rfl
  cases e2
  obtain⟨ad',A3,c3,e3,hc3,hr3⟩:=harg 2 d rfl
  cases e3
  have hlen:e.args.length=3:=by rw[hl];rfl
  rw[hlen] at *;refine Cd.seq ?_;refine Cd.dB (F':=[(0,_),(1,_),(2,_),(12,_)]) ⟨rfl,rfl,rfl,rfl,trivial⟩ ?_;refine gm 18 ?_;intro w2 hw2 zw2;replace bel:=bel.step hw2;replace k1:=k1.step hw2;have zbel:=bel.size;have zlt:=k1.lt;refine gw 3 Tryz.underlying105 ?_;refine fb Tryz.underlying68 k1 ?_;refine Zd (fun w hG=>aa.aU rfl rfl rfl Tryz.underlying68 (s:=4) (by kernel_rfl) (j:=0) rfl (by omega)) ?_;refine Zd (fun w hG=>aa.b7 (ps:=[.int .i64 a.op, .int .i64 a.n, .string (strOf a.name), .slice A1 a.args.length c1]) rfl rfl Tryz.underlying105 rfl (m:=4) (by kernel_rfl) rfl (hc1 _ (bel.step hG))) ?_;refine Dr.cu rfl (fun w=>Ze Tryz.func143) rfl (fun w hG=>hr1 w (bel.step hG)) ?_;refine gw 3 Tryz.underlying105 ?_;refine fb Tryz.underlying68 k1 ?_;refine Zd (fun w hG=>aa.aU rfl rfl rfl Tryz.underlying68 (s:=4) (by kernel_rfl) (j:=1) rfl (by omega)) ?_;refine Zd (fun w hG=>aa.b7 (ps:=[.int .i64 b.op, .int .i64 b.n, .string (strOf b.name), .slice A2 b.args.length c2]) rfl rfl Tryz.underlying105 rfl (m:=4) (by kernel_rfl) rfl (hc2 _ (bel.step hG))) ?_;refine Dr.cu rfl (fun w=>Ze Tryz.func143) rfl (fun w hG=>hr2 w (bel.step hG)) ?_;refine gw 3 Tryz.underlying105 ?_;refine fb Tryz.underlying68 k1 ?_;refine Zd (fun w hG=>aa.aU rfl rfl rfl Tryz.underlying68 (s:=4) (by kernel_rfl) (j:=2) rfl (by omega)) ?_;refine Zd (fun w hG=>aa.b7 (ps:=[.int .i64 d.op, .int .i64 d.n, .string (strOf d.name), .slice A3 d.args.length c3]) rfl rfl Tryz.underlying105 rfl (m:=4) (by kernel_rfl) rfl (hc3 _ (bel.step hG))) ?_;refine Dr.cu rfl (fun w=>Ze Tryz.func143) rfl (fun w hG=>hr3 w (bel.step hG)) ?_;refine Zd (fun w hG=>aa.assign rfl rfl) ?_;refine Zd (fun w hG=>aa.assign rfl rfl) ?_;refine Zd (fun w hG=>aa.assign rfl rfl) ?_;refine Dr.nil ?_;refine bH.done (F':=[(0,_),(1,_),(2,_),(3,_),(4,_),(5,_),(12,_)]) rfl ⟨rfl,rfl,rfl,rfl,rfl,rfl,rfl,trivial⟩ ?_;intro w3 hw3 fw3;replace bel:=bel.step hw3;replace k1:=k1.step hw3;refine ba 0 1 2 3 4 5 12 (aH (ah ?_));refine Zm ?_;refine jq ?_;refine Zm ?_;refine ar.start ?_;refine bB (fun hcx=>aa.move rfl rfl) ?_;refine jL ?_;refine Zn (fun hcx=>aa.bT rfl rfl rfl) ?_;refine fh ?_;refine bO 0 1 2 3 4 5 12 34 (Zt ?_);refine Cd.cond rfl (fun h=> ?_) (fun h=> ?_)
  ·simp at h
   rw[if_neg (fun hh=>by omega)] at hki;refine ah ?_;refine Za ?_;refine bO 0 1 2 3 4 5 12 34 (Zt (Cd.ret (ab.ae (ab.ae ?_))));refine aP ?_;exact⟨aO (int_eq hki.symm),bel⟩
  ·simp at h
   rw[if_pos (by omega)] at hki;refine Cd.skip (az ?_);refine Zm ?_;refine Za ?_;refine bO 0 1 2 3 4 5 12 34 (Zt (Cd.ret (ab.ae ?_)));refine aP ?_;exact⟨aO (int_eq hki.symm),bel⟩
 ·have hko:=yi hc
  refine Cd.skip (az ?_);refine Zf 0 Tryz.underlying105 ?_;refine ZL Tryz.underlying3 k1 ?_;refine Zc (Ze Tryz.func192) (qv e.op _) ?_;rintro en w5 ⟨rfl,hb5⟩;refine⟨_,rfl,?_⟩;replace bel:=bel.step hb5;replace k1:=k1.step hb5;refine Zm ?_;refine Zx ?_;refine Zx ?_;refine Za ?_;refine Za ?_;refine aV 0 1 2 6 7 12 (aH (ah ?_));refine Zf 3 Tryz.underlying105 ?_;refine ZL Tryz.underlying68 k1 ?_;refine Zv (aa.len rfl rfl Tryz.underlying68) ?_;refine Zm ?_;refine cw 0 1 2 6 7 12 43 44 45 (Zt (Cd.block ?_));obtain⟨n,hn⟩:∃n,e.args.length=n:=⟨_,rfl⟩;rw[hn] at dK⊢
  refine Cd.loop (σ:=Nat) (fun k=>[(6, .int .i64 (kK e.op).1),(7, .int .i64 (kK e.op).2),(43, .slice A n c),(44, .int .i64 (n:Int)),(45, .int .i64 (k:Int))])
   (fun k wr=>k≤n∧(∀x∈e.args.take k,dD x=(kK e.op).1)∧Below w.heap.size w wr) (fun k=>n-k) 0 ⟨Nat.zero_le _,by simp,bel⟩ ⟨rfl,rfl,rfl,rfl,rfl,trivial⟩ ?_
  clear bel k1;rintro k wr ⟨hk,hall,bel⟩;refine ah ?_;refine eU ?_;refine aV 6 7 43 44 45 46 (aH ?_);refine Cd.ao rfl (fun hc=> ?_) (fun hc=> ?_)
  ·obtain⟨x,hx⟩:∃x,e.args[k]? =some x:=⟨_,List.getElem?_eq_getElem (show k<e.args.length by omega)⟩
   obtain⟨ad,A',c',rfl,hcx,hrx⟩:=harg k x hx;have htk:e.args.take (k+1)=e.args.take k++[x]:=by rw[List.take_add_one,hx];rfl
   refine Cd.skip (aH (Cd.block (ah ?_)));refine Zv (aa.aU rfl rfl rfl Tryz.underlying68 (s:=4) (by kernel_rfl) (j:=k) rfl (by omega)) ?_;refine Zv (aa.b7 (ps:=[.int .i64 x.op, .int .i64 x.n, .string (strOf x.name), .slice A' x.args.length c']) rfl rfl Tryz.underlying105 rfl (m:=4) (by kernel_rfl) rfl (hcx _ bel)) ?_;refine Zl au ?_;intro g9 w2 n9;have e9:=Nat.le_trans bel.size n9.ge;replace bel:=bel.step n9.below;have k9:=n9.an;refine Zo 4 k9 ?_;intro w3 pw3;replace bel:=bel.put k9 pw3 e9;replace k9:=pw3.an;refine ba 6 7 9 43 44 45 46 (az ?_);refine ZW 4 Tryz.underlying105 k9 ?_;refine Zc (Ze Tryz.func143) (hrx _ bel) ?_;rintro en w6 ⟨rfl,hb6⟩;refine⟨_,rfl,?_⟩;replace bel:=bel.step hb6;replace k9:=k9.step hb6;refine Zm ?_;refine jq ?_;refine bO 6 7 9 43 44 45 46 52 (Zt ?_);refine Cd.ao rfl (fun h=> ?_) (fun h=> ?_)
   ·rw[if_neg (fun hh=>h (hh x (List.mem_of_getElem? hx)))] at hko
    refine ah ?_;refine Za ?_;refine cw 2 6 7 9 43 44 45 46 52 (Zt (Cd.ret (ab.af (ab.ae (ab.aJ (ab.af (ab.ae ?_)))))));refine aP ?_;exact⟨aO (int_eq hko.symm),bel⟩
   ·skip
    refine Cd.skip (ab.ag (et ?_));refine dq ?_;refine Zm ?_;refine bO 6 7 9 43 44 45 46 52 ?_;refine ab.round (k+1) ⟨rfl,rfl,rfl,rfl,rfl,trivial⟩ ⟨by omega,fun y hy=> ?_,bel⟩ (by omega);rw[htk] at hy;rcases List.mem_append.1 hy with hy|hy
    ·exact hall y hy
    ·simp at hy;subst hy;exact Classical.not_not.1 h
  ·obtain rfl:k=n:=by omega
   rw[←hn,List.take_length] at hall;rw[if_pos hall] at hko;refine Cd.exit (ab.aD (ab.ay (ab.aA (az ?_))));refine Zm ?_;refine Za ?_;refine ba 2 6 7 43 44 45 46 (Zt (Cd.ret ?_));refine aP ?_;exact⟨aO (int_eq hko.symm),bel⟩
def lf (op:Int):Int:=if op=6 then 1 else 2
theorem vv (t:Tm)(A A':Option Addr)(c c':Nat)(w:World):Calls Tryz.prog 144 #[.agg #[.int .i64 t.op, .string (strOf t.name), .slice A t.exprs.length c, .slice A' t.aw.length c']] w fun e w'=>e= .returned (.int .i64 (lf t.op))∧Grow w w':=by
 have bel:=Below.refl w.heap.size w;refine Zs 6 Tryz.func144 ?_;refine ah ?_;refine Seq.box rfl rfl rfl rfl rfl ?_;intro g1 w1 n1;have e1:=Nat.le_trans bel.size n1.ge;replace bel:=bel.step n1.below;have k1:=n1.an;refine Za ?_;refine bk 0 1 2 (aH (ah ?_));refine Zf 0 Tryz.underlying71 ?_;refine ZL Tryz.underlying3 k1 ?_;refine aX ?_;refine aS 0 1 2 5 (Zt ?_);refine Cd.ao rfl (fun hc=> ?_) (fun hc=> ?_)
 ·skip
  refine ah ?_;refine Za ?_;refine aS 0 1 2 5 (Zt (Cd.ret (ab.ae ?_)));refine aP ?_;exact⟨aO (int_eq (if_pos hc).symm),bel⟩
 ·skip
  refine Cd.skip (az ?_);refine Za ?_;refine aS 0 1 2 5 (Zt (Cd.ret ?_));refine aP ?_;exact⟨aO (int_eq (if_neg hc).symm),bel⟩
mutual
def fg:Tm→Bool
 | .mk op _ es l=>decide (∀e∈es,dD e=lf op)&&rI l
def rI:List Tm→Bool
 | []=>true
 |t::r=>fg t&&rI r
end
theorem oY:∀l,rI l=l.all fg
 | []=>by rw[rI];rfl
 |e::r=>by rw[rI,oY r];rfl
theorem rq (t:Tm):fg t=(decide (∀e∈t.exprs,dD e=lf t.op)&&t.aw.all fg):=by
 cases t;rw[fg,oY];rfl
theorem rP {t:Tm}(h:¬((∀e∈t.exprs,dD e=lf t.op)∧∀x∈t.aw,fg x=true)):fg t=false:=by
 cases hh:fg t with
 |false=>rfl
 |true=>rw[rq,Bool.and_eq_true,decide_eq_true_eq,List.all_eq_true] at hh;exact absurd hh h
theorem tq {t:Tm}(h:∀e∈t.exprs,dD e=lf t.op)(h2:∀x∈t.aw,fg x=true):fg t=true:=by
 rw[rq,Bool.and_eq_true,decide_eq_true_eq,List.all_eq_true];exact⟨h,h2⟩
theorem x4 (N:Nat):∀(t:Tm) (B:Nat) (v:Value) (w:World),t.nodes≤N→cS t=true→dR w B t v→B≤w.heap.size→Calls Tryz.prog 100 #[v] w fun en w'=>en= .returned (.bool (fg t))∧Grow w w':=by
 induction N with
 |zero=>intro t B v w hN;have:=t.bI;omega
 |succ N ih=>
 intro t B v w hN hbt hrep hB;obtain⟨A,c,A',c',rfl,hv⟩:=hrep.open;have bel:=Below.refl w.heap.size w;obtain⟨hhd,hexs,htms⟩:=ib hbt;have dK:=hv.dK;have iG:=hv.iG;have hno:= @rP t;have hyes:= @tq t;have hneed:=fun W=>vv t A A' c c' W;obtain⟨b,hb⟩:∃b,fg t=b:=⟨_,rfl⟩;rw[hb] at hno hyes⊢
 have hexp:∀k x,t.exprs[k]? =some x→∃ad A' c',A=some ad∧(∀W,Below w.heap.size w W→∀(j:Nat) (u:Value),([.int .i64 x.op, .int .i64 x.n, .string (strOf x.name), .slice A' x.args.length c']:List Value)[j]? =some u→W.cell? ((ad.add (k*4)).add j)=some u)∧∀W,Below w.heap.size w W→Calls Tryz.prog 143 #[.agg #[.int .i64 x.op, .int .i64 x.n, .string (strOf x.name), .slice A' x.args.length c']] W fun en w'=>en= .returned (.int .i64 (dD x))∧Grow W w':=fun k x hx=>by
  obtain⟨ad,A',c',e1,hbl,hrx,hc⟩:=hv.expr k x hx;exact⟨ad,A',c',e1,fun W hb j u hj=>((hb.mono hB).cell (p:=(ad.add (k*4)).add j) (by rw[ai,ai];exact hbl)).trans (hc j u hj),fun W hb=>qX x.nodes x B _ W (Nat.le_refl _) (hexs x (List.mem_of_getElem? hx)) (hrx.below (hb.mono hB)) (Nat.le_trans hB hb.size)⟩
 have htrm:∀k x,t.aw[k]? =some x→∃ad A1 A2 c1 c2,A'=some ad∧(∀W,Below w.heap.size w W→∀(j:Nat) (u:Value),(Aw x A1 A2 c1 c2)[j]? =some u→W.cell? ((ad.add (k*4)).add j)=some u)∧∀W,Below w.heap.size w W→Calls Tryz.prog 100 #[.agg #[.int .i64 x.op, .string (strOf x.name), .slice A1 x.exprs.length c1, .slice A2 x.aw.length c2]] W fun en w'=>en= .returned (.bool (fg x))∧Grow W w':=fun k x hx=>by
  obtain⟨ad,A1,A2,c1,c2,e1,hbl,hrx,hc⟩:=hv.term k x hx;have hxm:=List.mem_of_getElem? hx;have hxn:=Tm.dS hxm;exact⟨ad,A1,A2,c1,c2,e1,fun W hb j u hj=>((hb.mono hB).cell (p:=(ad.add (k*4)).add j) (by rw[ai,ai];exact hbl)).trans (hc j u hj),fun W hb=>ih x B _ W (by omega) (htms x hxm) (hrx.below (hb.mono hB)) (Nat.le_trans hB hb.size)⟩
 obtain⟨n,hn⟩:∃n,t.exprs.length=n:=⟨_,rfl⟩;obtain⟨m,hm⟩:∃m,t.aw.length=m:=⟨_,rfl⟩;rw[hn,hm] at hneed⊢;rw[hn] at dK;rw[hm] at iG;refine Zs 31 Tryz.func100 ?_;refine ah ?_;refine Seq.box rfl rfl rfl rfl rfl ?_;intro g1 w1 n1;have e1:=Nat.le_trans bel.size n1.ge;replace bel:=bel.step n1.below;have k1:=n1.an;refine Za ?_;refine bk 0 1 2 (aH (ah ?_));refine Zf 2 Tryz.underlying71 ?_;refine ZL Tryz.underlying68 k1 ?_;refine Zv (aa.len rfl rfl Tryz.underlying68) ?_;refine Zm ?_;refine aV 0 1 2 8 9 10 (Zt (Cd.block ?_))
 refine Cd.loop (σ:=Nat) (fun k=>[(1, .pointer (some ⟨g1,0,none⟩)),(8, .slice A n c),(9, .int .i64 (n:Int)),(10, .int .i64 (k:Int))])
  (fun k wr=>k≤n∧(∀x∈t.exprs.take k,dD x=lf t.op)∧Below w.heap.size w wr∧aE wr g1 71 #[.int .i64 t.op, .string (strOf t.name), .slice A n c, .slice A' m c']) (fun k=>n-k) 0 ⟨Nat.zero_le _,by simp,bel,k1⟩ ⟨rfl,rfl,rfl,rfl,trivial⟩ ?_
 clear bel k1;rintro k wr ⟨hk,hall,bel,k1⟩;refine ah ?_;refine eU ?_;refine aL 1 8 9 10 11 (aH ?_);refine Cd.ao rfl (fun hc=> ?_) (fun hc=> ?_)
 ·obtain⟨x,hx⟩:∃x,t.exprs[k]? =some x:=⟨_,List.getElem?_eq_getElem (show k<t.exprs.length by omega)⟩
  obtain⟨ad,A1,c1,rfl,hcx,hrx⟩:=hexp k x hx;have htk:t.exprs.take (k+1)=t.exprs.take k++[x]:=by rw[List.take_add_one,hx];rfl
  refine Cd.skip (aH (Cd.block (ah ?_)));refine Zv (aa.aU rfl rfl rfl Tryz.underlying68 (s:=4) (by kernel_rfl) (j:=k) rfl (by omega)) ?_;refine Zv (aa.b7 (ps:=[.int .i64 x.op, .int .i64 x.n, .string (strOf x.name), .slice A1 x.args.length c1]) rfl rfl Tryz.underlying105 rfl (m:=4) (by kernel_rfl) rfl (hcx _ bel)) ?_;refine Zl au ?_;intro g4 w2 n4;have e4:=Nat.le_trans bel.size n4.ge;have l4:=Nat.lt_of_lt_of_le k1.lt n4.ge;replace bel:=bel.step n4.below;replace k1:=k1.step n4.below;have k4:=n4.an;refine Zo 4 k4 ?_;intro w3 pw3;replace bel:=bel.put k4 pw3 e4;replace k1:=k1.put pw3 (by omega);replace k4:=pw3.an;refine aV 1 4 8 9 10 11 (aH ?_);refine gm 5 ?_;intro w4 hw4 zw4;replace bel:=bel.step hw4;replace k1:=k1.step hw4;replace k4:=k4.step hw4;have zbel:=bel.size;have zlt:=k4.lt;refine Zd (fun w hG=>aa.dx rfl rfl Tryz.underlying105 rfl (k4.step hG) (m:=4) (by kernel_rfl) rfl) ?_;refine Dr.cu rfl (fun w=>Ze Tryz.func143) rfl (fun w hG=>hrx w (bel.step hG)) ?_;refine Zd (fun w hG=>aa.dx rfl rfl Tryz.underlying71 rfl (k1.step hG) (m:=4) (by kernel_rfl) rfl) ?_;refine Dr.cu rfl (fun w=>Ze Tryz.func144) rfl (fun w hG=>hneed w) ?_;refine Zd (fun w hG=>aa.bT rfl rfl rfl) ?_;refine Dr.nil ?_;refine bH.done (F':=[(1,_),(4,_),(8,_),(9,_),(10,_),(11,_),(18,_)]) rfl ⟨rfl,rfl,rfl,rfl,rfl,rfl,rfl,trivial⟩ ?_;intro w5 hw5 fw5;replace bel:=bel.step hw5;replace k1:=k1.step hw5;replace k4:=k4.step hw5;refine ba 1 4 8 9 10 11 18 (Zt ?_);refine Cd.ao rfl (fun hc=> ?_) (fun hc=> ?_)
  ·skip
   refine ah ?_;refine Za ?_;refine bO 1 2 4 8 9 10 11 18 (Zt (Cd.ret (ab.af (ab.ae (ab.aJ (ab.af (ab.ae ?_)))))));refine aP ?_;exact⟨aO (aB (hno fun hh=>hc (hh.1 x (List.mem_of_getElem? hx))).symm),bel⟩
  ·skip
   refine Cd.skip (ab.ag (et ?_));refine dq ?_;refine Zm ?_;refine ba 1 4 8 9 10 11 18 ?_;refine ab.round (k+1) ⟨rfl,rfl,rfl,rfl,trivial⟩ ⟨by omega,fun y hy=> ?_,bel,k1⟩ (by omega);rw[htk] at hy;rcases List.mem_append.1 hy with hy|hy
   ·exact hall y hy
   ·simp at hy;subst hy;exact Classical.not_not.1 hc
 ·obtain rfl:k=n:=by omega
  rw[←hn,List.take_length] at hall;refine Cd.exit (ab.aD (ab.ay (ab.aA (aH (ah ?_)))));refine Zf 3 Tryz.underlying71 ?_;refine ZL Tryz.underlying69 k1 ?_;refine Zv (aa.len rfl rfl Tryz.underlying69) ?_;refine Zm ?_;refine bO 1 8 9 10 11 21 22 23 (Zt (Cd.block ?_))
  refine Cd.loop (σ:=Nat) (fun k=>[(21, .slice A' m c'),(22, .int .i64 (m:Int)),(23, .int .i64 (k:Int))])
   (fun k wr=>k≤m∧(∀x∈t.aw.take k,fg x=true)∧Below w.heap.size w wr) (fun k=>m-k) 0 ⟨Nat.zero_le _,by simp,bel⟩ ⟨rfl,rfl,rfl,trivial⟩ ?_
  clear bel k1;rintro j wr ⟨hj,hallt,bel⟩;refine ah ?_;refine eU ?_;refine aS 21 22 23 24 (aH ?_);refine Cd.ao rfl (fun hc=> ?_) (fun hc=> ?_)
  ·obtain⟨x,hx⟩:∃x,t.aw[j]? =some x:=⟨_,List.getElem?_eq_getElem (show j<t.aw.length by omega)⟩
   obtain⟨ad,A1,A2,c1,c2,rfl,hcx,hrx⟩:=htrm j x hx;have htk:t.aw.take (j+1)=t.aw.take j++[x]:=by rw[List.take_add_one,hx];rfl
   refine Cd.skip (aH (Cd.block (ah ?_)));refine Zv (aa.aU rfl rfl rfl Tryz.underlying69 (s:=4) (by kernel_rfl) (j:=j) rfl (by omega)) ?_;refine Zv (aa.b7 (ps:=[.int .i64 x.op, .string (strOf x.name), .slice A1 x.exprs.length c1, .slice A2 x.aw.length c2]) rfl rfl Tryz.underlying71 rfl (m:=4) (by kernel_rfl) rfl (hcx _ bel)) ?_;refine Zl aK ?_;intro g6 w2 n6;have e6:=Nat.le_trans bel.size n6.ge;replace bel:=bel.step n6.below;have k6:=n6.an;refine Zo 4 k6 ?_;intro w3 pw3;replace bel:=bel.put k6 pw3 e6;replace k6:=pw3.an;refine aL 6 21 22 23 24 (az ?_);refine ZW 4 Tryz.underlying71 k6 ?_;refine Zc (Ze Tryz.func100) (hrx _ bel) ?_;rintro en w6 ⟨rfl,hb6⟩;refine⟨_,rfl,?_⟩;replace bel:=bel.step hb6;replace k6:=k6.step hb6;refine gU ?_;refine aV 6 21 22 23 24 29 (Zt ?_);refine Cd.cond rfl (fun h=> ?_) (fun h=> ?_)
   ·simp at h
    refine ah ?_;refine Za ?_;refine ba 2 6 21 22 23 24 29 (Zt (Cd.ret (ab.af (ab.ae (ab.aJ (ab.af (ab.ae ?_)))))));refine aP ?_;exact⟨aO (aB (hno fun hh=>by rw[hh.2 x (List.mem_of_getElem? hx)] at h;cases h).symm),bel⟩
   ·simp at h
    refine Cd.skip (ab.ag (et ?_));refine dq ?_;refine Zm ?_;refine aV 6 21 22 23 24 29 ?_;refine ab.round (j+1) ⟨rfl,rfl,rfl,trivial⟩ ⟨by omega,fun y hy=> ?_,bel⟩ (by omega);rw[htk] at hy;rcases List.mem_append.1 hy with hy|hy
    ·exact hallt y hy
    ·simp at hy;subst hy;exact h
  ·obtain rfl:j=m:=by omega
   rw[←hm,List.take_length] at hallt;refine Cd.exit (ab.aD (ab.ay (ab.aA (az ?_))));refine Za ?_;refine aL 2 21 22 23 24 (Zt (Cd.ret ?_));refine aP ?_;exact⟨aO (aB (hyes hall hallt).symm),bel⟩
def nF (t:Tm):Int:=if bK t then(if fg t then 0 else 12) else 1
theorem ew {t:Tm}(h:bK t=true):cS t=true∧t.nodes≤200∧t.depth≤16:=by
 unfold bK at h;simp only[Bool.and_eq_true,decide_eq_true_eq] at h;exact⟨h.2,h.1.1,h.1.2⟩
theorem pL (t:Tm)(B:Nat)(v:Value)(w:World)(hd:t.depth≤900)(hrep:dR w B t v)(hB:B≤w.heap.size):Calls Tryz.prog 61 #[v] w fun en w'=>en= .returned (.int .i64 (nF t))∧Grow w w':=by
 have bel:=Below.refl w.heap.size w;have hrt:=fun W (hb:Below w.heap.size w W)=>pF t B v W hd (hrep.below (hb.mono hB)) (Nat.le_trans hB hb.size);have hft:=fun W (hb:Below w.heap.size w W) (h:bK t=true)=>x4 t.nodes t B v W (Nat.le_refl _) (ew h).1 (hrep.below (hb.mono hB)) (Nat.le_trans hB hb.size);obtain⟨A,c,A',c',rfl,-⟩:=hrep.open;unfold nF
 generalize bK t=r at hrt hft⊢
 generalize fg t=f at hft⊢
 refine Zs 11 Tryz.func61 ?_;refine ah ?_;refine Seq.box rfl rfl rfl rfl rfl ?_;intro g1 w1 n1;have e1:=Nat.le_trans bel.size n1.ge;replace bel:=bel.step n1.below;have k1:=n1.an;refine Za ?_;refine bk 0 1 2 (aH (Cd.block (ah ?_)));refine ZW 4 Tryz.underlying71 k1 ?_;refine Zc (Ze Tryz.func99) (hrt _ bel) ?_;rintro en w5 ⟨rfl,hb5⟩;refine⟨_,rfl,?_⟩;replace bel:=bel.step hb5;replace k1:=k1.step hb5;refine gU ?_;refine Za ?_;refine aS 0 1 2 3 (Zt ?_);refine Cd.cond rfl (fun h=> ?_) (fun h=> ?_)
 ·simp at h
  subst h;refine ah ?_;refine Za ?_;refine aS 0 1 2 3 (Zt (Cd.ret (ab.af (ab.ae ?_))));refine aP ?_;exact⟨rfl,bel⟩
 ·simp at h
  subst h;refine ah ?_;refine ZW 4 Tryz.underlying71 k1 ?_;refine Zc (Ze Tryz.func100) (hft _ bel rfl) ?_;rintro en w6 ⟨rfl,hb6⟩;refine⟨_,rfl,?_⟩;replace bel:=bel.step hb6;replace k1:=k1.step hb6;refine gU ?_;refine Za ?_;refine aL 0 1 2 3 7 (Zt ?_);refine Cd.cond rfl (fun h=> ?_) (fun h=> ?_)
  ·simp at h
   subst h;refine ah ?_;refine Za ?_;refine aL 0 1 2 3 7 (Zt (Cd.ret (ab.af (ab.ae ?_))));refine aP ?_;exact⟨rfl,bel⟩
  ·simp at h
   subst h;refine Cd.skip (ab.ag (az ?_));refine Za ?_;refine aL 0 1 2 3 7 (Zt (Cd.ret ?_));refine aP ?_;exact⟨rfl,bel⟩
def nU (e:Ex):Int:=if cz e then dD e else 0
theorem uG (e:Ex)(B:Nat)(v:Value)(w:World)(hd:e.depth≤900)(hrep:jQ w B e v)(hB:B≤w.heap.size):Calls Tryz.prog 105 #[v] w fun en w'=>en= .returned (.tuple #[.int .i64 (nU e), .bool (decide (nU e≠0))])∧Grow w w':=by
 have bel:=Below.refl w.heap.size w;have hrt:=fun W (hb:Below w.heap.size w W)=>jI e B v W hd (hrep.below (hb.mono hB)) (Nat.le_trans hB hb.size);have hft:=fun W (hb:Below w.heap.size w W) (h:cz e=true)=>qX e.nodes e B v W (Nat.le_refl _) (by unfold cz at h;simp only[Bool.and_eq_true] at h;exact h.2) (hrep.below (hb.mono hB)) (Nat.le_trans hB hb.size);obtain⟨A,c,rfl,-⟩:=hrep.open;unfold nU;have hre:(decide (e.nodes≤200)&&decide (e.depth≤16)&&bQ e)=cz e:=rfl;rw[hre] at hrt
 generalize cz e=r at hrt hft⊢
 generalize dD e=f at hft⊢
 refine Zs 13 Tryz.func105 ?_;refine ah ?_;refine Seq.box rfl rfl rfl rfl rfl ?_;intro g1 w1 n1;have e1:=Nat.le_trans bel.size n1.ge;replace bel:=bel.step n1.below;have k1:=n1.an;refine Za ?_;refine Za ?_;refine aS 0 1 2 3 (aH (ah ?_));refine ZW 4 Tryz.underlying105 k1 ?_;refine Zc (Ze Tryz.func136) (hrt _ bel) ?_;rintro en w5 ⟨rfl,hb5⟩;refine⟨_,rfl,?_⟩;replace bel:=bel.step hb5;replace k1:=k1.step hb5;refine gU ?_;refine aL 0 1 2 3 7 (Zt ?_);refine Cd.cond rfl (fun h=> ?_) (fun h=> ?_)
 ·simp at h
  subst h;refine ah ?_;refine Za ?_;refine Za ?_;refine aL 0 1 2 3 7 (Zt (Cd.ret (ab.ae ?_)));refine cG ?_;exact⟨rfl,bel⟩
 ·simp at h
  subst h;refine Cd.skip (az ?_);refine ZW 4 Tryz.underlying105 k1 ?_;refine Zc (Ze Tryz.func143) (hft _ bel rfl) ?_;rintro en w6 ⟨rfl,hb6⟩;refine⟨_,rfl,?_⟩;replace bel:=bel.step hb6;replace k1:=k1.step hb6;refine Za ?_;refine aV 0 1 2 3 4 7 (az ?_);refine Zm ?_;refine Zm ?_;refine jq ?_;refine Za ?_;refine Za ?_;refine aV 0 1 2 3 4 7 (Zt (Cd.ret ?_));refine cG ?_;exact⟨rfl,bel⟩
theorem yA (e:Ex)(B:Nat)(v:Value)(w:World)(hd:e.depth≤900)(hrep:jQ w B e v)(hB:B≤w.heap.size):Calls Tryz.prog 104 #[v] w fun en w'=>en= .returned (.bool (decide (nU e≠2)))∧Grow w w':=by
 have bel:=Below.refl w.heap.size w;have hk:=fun W (hb:Below w.heap.size w W)=>uG e B v W hd (hrep.below (hb.mono hB)) (Nat.le_trans hB hb.size);obtain⟨A,c,rfl,-⟩:=hrep.open;refine Zs 12 Tryz.func104 ?_;refine ah ?_;refine Seq.box rfl rfl rfl rfl rfl ?_;intro g1 w1 n1;have e1:=Nat.le_trans bel.size n1.ge;replace bel:=bel.step n1.below;have k1:=n1.an;refine Za ?_;refine bk 0 1 2 (az ?_);refine ZW 4 Tryz.underlying105 k1 ?_;refine Zc (Ze Tryz.func105) (hk _ bel) ?_;rintro en w6 ⟨rfl,hb6⟩;refine⟨_,rfl,?_⟩;replace bel:=bel.step hb6;replace k1:=k1.step hb6;refine Zm ?_;refine Zx ?_;refine Zx ?_;refine Za ?_;refine Za ?_;refine aS 0 1 2 3 (az ?_);refine Zm ?_;refine jq ?_;refine Za ?_;refine aS 0 1 2 3 (Zt (Cd.ret ?_));refine aP ?_;exact⟨rfl,bel⟩
def wJ (op:Int):Bool:=decide (op=6)||decide (op=7)||decide (op=5)||decide (op=9)
theorem ri (t:Tm)(A A':Option Addr)(c c':Nat)(w:World):Calls Tryz.prog 106 #[.agg #[.int .i64 t.op, .string (strOf t.name), .slice A t.exprs.length c, .slice A' t.aw.length c']] w fun e w'=>e= .returned (.bool (wJ t.op))∧Grow w w':=by
 have bel:=Below.refl w.heap.size w
 generalize t.op=op
 refine Zs 10 Tryz.func106 ?_;refine ah ?_;refine Seq.box rfl rfl rfl rfl rfl ?_;intro g1 w1 n1;have e1:=Nat.le_trans bel.size n1.ge;replace bel:=bel.step n1.below;have k1:=n1.an;refine Za ?_;refine bk 0 1 2 (aH (ah ?_));refine Zf 0 Tryz.underlying71 ?_;refine ZL Tryz.underlying3 k1 ?_;refine aS 0 1 2 4 (Zt (Cd.block (Cd.seq (ah ?_))));refine aX ?_;refine Za ?_;refine aL 0 1 2 4 5 (Zt ?_);refine Cd.cond rfl (fun h=> ?_) (fun h=> ?_)
 ·skip
  refine Cd.skip (Zt ?_);refine Cd.aM rfl h ?_;simp at h;subst h;refine ah ?_;refine Za ?_;refine aL 0 1 2 4 5 (Zt (Cd.ret (ab.af (ab.ae ?_))));refine aP ?_;exact⟨rfl,bel⟩
 ·simp at h
  refine ah ?_;refine aX ?_;refine Za ?_;refine aL 0 1 2 4 5 (Zt ?_);refine Cd.cond rfl (fun h2=> ?_) (fun h2=> ?_)
  ·skip
   refine Cd.skip (Zt ?_);refine Cd.aM rfl h2 ?_;simp at h2;subst h2;refine ah ?_;refine Za ?_;refine aL 0 1 2 4 5 (Zt (Cd.ret (ab.af (ab.ae ?_))));refine aP ?_;exact⟨rfl,bel⟩
  ·simp at h2
   refine ah ?_;refine aX ?_;refine Za ?_;refine aL 0 1 2 4 5 (Zt ?_);refine Cd.cond rfl (fun h3=> ?_) (fun h3=> ?_)
   ·skip
    refine Cd.skip (Zt ?_);refine Cd.aM rfl h3 ?_;simp at h3;subst h3;refine ah ?_;refine Za ?_;refine aL 0 1 2 4 5 (Zt (Cd.ret (ab.af (ab.ae ?_))));refine aP ?_;exact⟨rfl,bel⟩
   ·simp at h3
    refine Zr ?_;refine aX ?_;refine Za ?_;refine aL 0 1 2 4 5 (Zt ?_);refine Cd.cond rfl (fun h4=> ?_) (fun h4=> ?_)
    ·simp at h4
     subst h4;refine ah ?_;refine Za ?_;refine aL 0 1 2 4 5 (Zt (Cd.ret (ab.af (ab.ae ?_))));refine aP ?_;exact⟨rfl,bel⟩
    ·simp at h4
     refine Cd.skip (ab.ag (az ?_));refine Za ?_;refine aL 0 1 2 4 5 (Zt (Cd.ret ?_));refine aP ?_;exact⟨aO (aB (by unfold wJ;simp[h,h2,h3,h4])),bel⟩
theorem sW (a b:Int)(w:World)(h:a<1000)(h2:b<1000):Calls Tryz.prog 147 #[.agg #[.int .i64 a, .int .i64 b]] w fun e w'=>e= .returned (.tuple #[.int .i64 a, .int .i64 b])∧Grow w w':=by
 have bel:=Below.refl w.heap.size w;refine Zs 14 Tryz.func147 ?_;refine ah ?_;refine Seq.box rfl rfl rfl rfl rfl ?_;intro g1 w1 n1;have e1:=Nat.le_trans bel.size n1.ge;replace bel:=bel.step n1.below;have k1:=n1.an;refine Za ?_;refine Za ?_;refine aS 0 1 2 3 (aH (ah ?_));refine Zf 0 Tryz.underlying200 ?_;refine ZL Tryz.underlying3 k1 ?_;refine Zf 1 Tryz.underlying200 ?_;refine ZL Tryz.underlying3 k1 ?_;refine Zv (aa.max2 rfl rfl rfl) ?_;refine oo ?_;refine aL 0 1 2 3 9 (Zt ?_);refine Cd.ao rfl (fun hc=> ?_) (fun hc=> ?_)
 ·exfalso
  omega
 ·skip
  refine Cd.skip (aH ?_);refine Cd.dB (F':=[(0,_),(1,_),(9,_)]) ⟨rfl,rfl,rfl,trivial⟩ ?_;refine gm 6 ?_;intro w2 hw2 zw2;replace bel:=bel.step hw2;replace k1:=k1.step hw2;have zbel:=bel.size;have zlt:=k1.lt;refine gw 0 Tryz.underlying200 ?_;refine fb Tryz.underlying3 k1 ?_;refine gw 1 Tryz.underlying200 ?_;refine fb Tryz.underlying3 k1 ?_;refine Zd (fun w hG=>aa.assign rfl rfl) ?_;refine Zd (fun w hG=>aa.assign rfl rfl) ?_;refine Dr.nil ?_;refine bH.done (F':=[(0,_),(1,_),(2,_),(3,_),(9,_)]) rfl ⟨rfl,rfl,rfl,rfl,rfl,trivial⟩ ?_;intro w3 hw3 fw3;replace bel:=bel.step hw3;replace k1:=k1.step hw3;refine aL 0 1 2 3 9 (Zt (Cd.ret ?_));refine cG ?_;exact⟨rfl,bel⟩
theorem sl (t:Tm)(B:Nat)(v:Value)(w:World)(hr:bK t=true)(hrep:dR w B t v)(hB:B≤w.heap.size):Calls Tryz.prog 108 #[v] w fun en w'=>en= .returned (.tuple #[.int .i64 (t.nodes:Int), .int .i64 (t.depth:Int)])∧Grow w w':=by
 obtain⟨hbt,hn,hd⟩:=ew hr;have hs:=fun W (hb:Below w.heap.size w W)=>km t.nodes t 0 B v W (Nat.le_refl _) (by omega) (hrep.below (hb.mono hB)) (Nat.le_trans hB hb.size);have hc:=mx t;obtain⟨c1,c2⟩:=hc;rw[c2 (by omega),c1,show min (t.nodes:Int) 1000=t.nodes by omega] at hs;obtain⟨A,c,A',c',rfl,-⟩:=hrep.open;have bel:=Below.refl w.heap.size w;refine Zs 9 Tryz.func108 ?_;refine ah ?_;refine Seq.box rfl rfl rfl rfl rfl ?_;intro g1 w1 n1;have e1:=Nat.le_trans bel.size n1.ge;replace bel:=bel.step n1.below;have k1:=n1.an;refine Za ?_;refine Za ?_;refine aS 0 1 2 3 (az ?_);refine ZW 4 Tryz.underlying71 k1 ?_;refine Zc (Ze Tryz.func140) (hs _ bel) ?_;rintro en w5 ⟨rfl,hb5⟩;refine⟨_,rfl,?_⟩;replace bel:=bel.step hb5;replace k1:=k1.step hb5;refine Zc (Ze Tryz.func147) (sW t.nodes t.depth _ (by omega) (by omega)) ?_;rintro en w6 ⟨rfl,hb6⟩;refine⟨_,rfl,?_⟩;replace bel:=bel.step hb6;replace k1:=k1.step hb6;refine Zx ?_;refine Zx ?_;refine Za ?_;refine Za ?_;refine aS 0 1 2 3 (Zt (Cd.ret ?_));refine cG ?_;exact⟨rfl,bel⟩
structure Pt where
 bc:Int
 bj:Bool
 fv:List Ex
 term:Tm
def vJ (p:Pt)(A A1 A2:Option Addr)(c c1 c2:Nat):List Value:=[.int .i64 p.bc, .bool p.bj, .slice A p.fv.length c, .int .i64 p.term.op, .string (strOf p.term.name), .slice A1 p.term.exprs.length c1, .slice A2 p.term.aw.length c2]
structure r9 (w:World)(B:Nat)(p:Pt)(A A1 A2:Option Addr)(c1 c2:Nat):Prop where
 tL:bu p.bc
 dK:p.fv.length≤1000
 fv:ma w B p.fv A
 term:dR w B p.term (.agg #[.int .i64 p.term.op, .string (strOf p.term.name), .slice A1 p.term.exprs.length c1, .slice A2 p.term.aw.length c2])
theorem r9.below {w w':World}{B:Nat}{p:Pt}{A A1 A2:Option Addr}{c1 c2:Nat}(h:r9 w B p A A1 A2 c1 c2)(hb:Below B w w'):r9 w' B p A A1 A2 c1 c2:=⟨h.tL,h.dK,h.fv.below hb,h.term.below hb⟩
def jx (w:World)(B:Nat)(ps:List Pt)(A:Option Addr):Prop:=∀i x,ps[i]? =some x→∃ad A0 A1 A2 c c1 c2,A=some ad∧ad.block<B∧r9 w B x A0 A1 A2 c1 c2∧∀(j:Nat) (u:Value),(vJ x A0 A1 A2 c c1 c2)[j]? =some u→w.cell? ((ad.add (i*7)).add j)=some u
theorem jx.below {w w':World}{B:Nat}{ps:List Pt}{A:Option Addr}(h:jx w B ps A)(hb:Below B w w'):jx w' B ps A:=fun i x hx=>by
 obtain⟨ad,A0,A1,A2,c,c1,c2,e1,e2,e3,e4⟩:=h i x hx;exact⟨ad,A0,A1,A2,c,c1,c2,e1,e2,e3.below hb,fun j u hu=>(hb.cell (by rw[ai,ai];exact e2)).trans (e4 j u hu)⟩
def Pt.flat (p:Pt):Prop:=p.term.depth≤900∧∀e∈p.fv,e.depth≤900
def yE (p:Pt):Bool:=wJ p.term.op&&decide (nF p.term=0)&&decide (p.fv.length≤16)&& !p.fv.any fun e=>decide (nU e≠2)
def iT:Nat→List Pt→Bool
 |_,[]=>true
 |s,p::r=>yE p&&decide (s+p.term.nodes≤200)&&iT (s+p.term.nodes) r
theorem va {p:Pt}(h:yE p=true):bK p.term=true:=by
 unfold yE nF at h
 cases hr:bK p.term with
 |true=>rfl
 |false=>rw[hr] at h;simp at h
theorem bF:br Tryz.prog 108=some (some (.agg #[.int .i64 0, .bool false, .slice none 0 0, .int .i64 0, .string {data:= #[]}, .slice none 0 0, .slice none 0 0])):=by kernel_rfl
theorem jo {a b c d e f g:Value}(j:Nat)(v:Value)(hj:([d,e,f,g]:List Value)[j]? =some v):(#[a,b,c,d,e,f,g]:Array Value)[3+j]? =some v:=by
 rcases j with _|_|_|_|j<;>first|(rw[←hj];rfl)|cases hj
theorem Aq:∀args w,(callFunc 104 args).run Tryz.prog w= .ok (.enter 104 args) w:=fun args w=>aF Tryz.func104 (by kernel_rfl) rfl args w
theorem qf (l:List Ex)(B:Nat)(A:Option Addr)(c:Nat)(w:World)(dK:l.length≤1000)(hv:ma w B l A)(hd:∀e∈l,e.depth≤900)(hB:B≤w.heap.size):
  Calls Tryz.prog 107 #[.slice A l.length c, .func (.func 104) #[] #[]] w fun en w'=>en= .returned (.bool (l.any fun e=>decide (nU e≠2)))∧Grow w w':=
 gq 104 [] (fun e=>decide (nU e≠2)) B A c (.mk 0 0 [] l) w ⟨dK,⟨by show -9223372036854775808≤(0:Int);omega,by show(0:Int)≤9223372036854775807;omega⟩,⟨by show -9223372036854775808≤(0:Int);omega,by show(0:Int)≤9223372036854775807;omega⟩,(by intro d hd;cases hd),Nat.zero_le _,hv⟩ hB Aq (fun x hx v W hb hr=>yA x B v W (hd x hx) hr (Nat.le_trans hB hb.size))
theorem oK (ps:List Pt)(B:Nat)(A:Option Addr)(c:Nat)(w:World)(dK:ps.length≤1000)(hv:jx w B ps A)(hB:B≤w.heap.size)(hd:∀p∈ps,p.flat):Calls Tryz.prog 63 #[.slice A ps.length c] w fun en w'=>en= .returned (.bool (iT 0 ps))∧Grow w w':=by
 have bel:=Below.refl w.heap.size w;obtain⟨n,hn⟩:∃n,ps.length=n:=⟨_,rfl⟩;rw[hn] at dK⊢;obtain⟨b,hb⟩:∃b,iT 0 ps=b:=⟨_,rfl⟩;rw[hb];refine Zs 49 Tryz.func63 ?_;refine ah ?_;refine Za ?_;refine cZ 0 2 (az ?_);refine Za ?_;refine bk 0 2 3 (az ?_);refine Za ?_;refine aS 0 2 3 4 (aH (ah ?_));refine Zm ?_;refine Zv (aa.len rfl rfl Tryz.underlying50) ?_;refine Zm ?_;refine ba 0 2 3 4 9 10 11 (Zt (Cd.block ?_))
 refine Cd.loop (σ:=Nat × Nat) (fun s=>[(3, .func (.func 104) #[] #[]),(4, .int .i64 (s.2:Int)),(9, .slice A n c),(10, .int .i64 (n:Int)),(11, .int .i64 (s.1:Int))])
  (fun s wr=>s.1≤n∧s.2≤200∧iT s.2 (ps.drop s.1)=b∧Below w.heap.size w wr) (fun s=>n-s.1) (0,0) ⟨Nat.zero_le _,Nat.zero_le _,hb,bel⟩ ⟨rfl,rfl,rfl,rfl,rfl,trivial⟩ ?_
 clear bel;clear hb;rintro⟨k,s⟩ wr ⟨hk,hs,hb,bel⟩;simp only at hk hs hb;show Cd _ _ _ _ [(3, .func (.func 104) #[] #[]),(4, .int .i64 (s:Int)),(9, .slice A n c),(10, .int .i64 (n:Int)),(11, .int .i64 (k:Int))] _;refine ah ?_;refine eU ?_;refine aV 3 4 9 10 11 12 (aH ?_);refine Cd.ao rfl (fun hc=> ?_) (fun hc=> ?_)
 ·obtain⟨x,hx⟩:∃x,ps[k]? =some x:=⟨_,List.getElem?_eq_getElem (show k<ps.length by omega)⟩
  obtain⟨ad,A0,A1,A2,c0,c1,c2,rfl,hbl,hrx,hc⟩:=hv k x hx;have hxm:=List.mem_of_getElem? hx;obtain⟨hdt,hde⟩:=hd x hxm;have hc:=fun j u hj=>((bel.mono hB).cell (p:=(ad.add (k*7)).add j) (by rw[ai,ai];exact hbl)).trans (hc j u hj)
  have hdrop:ps.drop k=x::ps.drop (k+1):=by
   rw[List.drop_eq_getElem_cons (show k<ps.length by omega)];congr 1;obtain⟨_,he⟩:=List.getElem?_eq_some_iff.1 hx;exact he
  rw[hdrop,iT] at hb;have q1:=fun W=>ri x.term A1 A2 c1 c2 W;have q2:=fun W (hb:Below w.heap.size w W)=>pL x.term B _ W hdt (hrx.term.below (hb.mono hB)) (Nat.le_trans hB hb.size);have q3:=fun W (hb:Below w.heap.size w W)=>qf x.fv B A0 c0 W hrx.dK (hrx.fv.below (hb.mono hB)) hde (Nat.le_trans hB hb.size);have q4:=fun W (hb:Below w.heap.size w W) (hr:bK x.term=true)=>sl x.term B _ W hr (hrx.term.below (hb.mono hB)) (Nat.le_trans hB hb.size);have q5:= @va x;unfold vJ at hc;have h60x:=hrx.dK;refine Cd.skip (aH (Cd.block (ah ?_)));refine Zv (aa.aU rfl rfl rfl Tryz.underlying50 (s:=7) (by kernel_rfl) (j:=k) rfl (by omega)) ?_;refine Zv (aa.b7 (ps:=[.int .i64 x.bc, .bool x.bj, .slice A0 x.fv.length c0, .int .i64 x.term.op, .string (strOf x.term.name), .slice A1 x.term.exprs.length c1, .slice A2 x.term.aw.length c2]) rfl rfl Tryz.underlying108 rfl (m:=7) (by kernel_rfl) rfl hc) ?_;refine Zl bF ?_;intro g6 w1 n6;have e6:=Nat.le_trans bel.size n6.ge;replace bel:=bel.step n6.below;have k6:=n6.an;refine Zo 7 k6 ?_;intro w2 pw2;replace bel:=bel.put k6 pw2 e6;replace k6:=pw2.an;refine ba 3 4 6 9 10 11 12 (aH (ah ?_));refine Zf 3 Tryz.underlying108 ?_;refine Zv (aa.o8 (off:=3) (ps:=[.int .i64 x.term.op, .string (strOf x.term.name), .slice A1 x.term.exprs.length c1, .slice A2 x.term.aw.length c2]) rfl rfl Tryz.underlying71 rfl k6 (m:=4) (by kernel_rfl) rfl jo) ?_;refine Zc (Ze Tryz.func106) (q1 _) ?_;rintro en w6 ⟨rfl,hb6⟩;refine⟨_,rfl,?_⟩;replace bel:=bel.step hb6;replace k6:=k6.step hb6;refine gU ?_;refine Zm ?_;refine ar.start ?_;refine bB (fun hcx=>aa.aj 3 rfl rfl Tryz.underlying108 rfl (by kernel_rfl)) ?_;refine Zn (fun hcx=>aa.o8 (off:=3) (ps:=[.int .i64 x.term.op, .string (strOf x.term.name), .slice A1 x.term.exprs.length c1, .slice A2 x.term.aw.length c2]) rfl rfl Tryz.underlying71 rfl k6 (m:=4) (by kernel_rfl) rfl jo) ?_;refine ar.aW rfl rfl rfl rfl rfl rfl rfl (fun hcx=>Ze Tryz.func61) (fun hcx=>q2 _ bel) ?_;intro w3 hw3;replace bel:=bel.step hw3;replace k6:=k6.step hw3;refine Zn (fun hcx=>aa.bT rfl rfl rfl) ?_;refine fh ?_;refine Zm ?_;refine ar.start ?_;refine bB (fun hcx=>aa.aj 2 rfl rfl Tryz.underlying108 rfl (by kernel_rfl)) ?_;refine Zn (fun hcx=>aa.ak rfl rfl Tryz.underlying68 rfl k6 rfl) ?_;refine Zn (fun hcx=>aa.len rfl rfl Tryz.underlying68) ?_;refine Zn (fun hcx=>aa.gtr rfl rfl rfl) ?_;refine fh ?_;refine Zm ?_;refine ar.start ?_;refine bB (fun hcx=>aa.aj 2 rfl rfl Tryz.underlying108 rfl (by kernel_rfl)) ?_;refine Zn (fun hcx=>aa.ak rfl rfl Tryz.underlying68 rfl k6 rfl) ?_;refine jL ?_;refine ar.aW rfl rfl rfl rfl rfl rfl rfl (fun hcx=>Ze Tryz.func107) (fun hcx=>q3 _ bel) ?_;intro w4 hw4;replace bel:=bel.step hw4;replace k6:=k6.step hw4;refine fh ?_;refine bO 3 4 6 9 10 11 12 36 (Zt ?_);refine Cd.cond rfl (fun h=> ?_) (fun h=> ?_)
  ·simp at h
   have hok:yE x=false:=by
    cases hh:yE x with
    |false=>rfl
    |true=>
     unfold yE at hh;simp at hh
     grind
   rw[hok,Bool.false_and,Bool.false_and] at hb;refine ah ?_;refine Za ?_;refine cw 2 3 4 6 9 10 11 12 36 (Zt (Cd.ret (ab.ae (ab.af (ab.ae (ab.aJ (ab.af (ab.ae ?_))))))));refine aP ?_;exact⟨aO (aB hb),bel⟩
  ·simp at h
   have hok:yE x=true:=by
    unfold yE;simp
    grind
   have hr:=q5 hok;rw[hok,Bool.true_and] at hb;obtain⟨-,hn2,-⟩:=ew hr;refine Cd.skip (az ?_);refine Zf 3 Tryz.underlying108 ?_;refine Zv (aa.o8 (off:=3) (ps:=[.int .i64 x.term.op, .string (strOf x.term.name), .slice A1 x.term.exprs.length c1, .slice A2 x.term.aw.length c2]) rfl rfl Tryz.underlying71 rfl k6 (m:=4) (by kernel_rfl) rfl jo) ?_;refine Zc (Ze Tryz.func108) (q4 _ bel hr) ?_;rintro en w7 ⟨rfl,hb7⟩;refine⟨_,rfl,?_⟩;replace bel:=bel.step hb7;replace k6:=k6.step hb7;refine Zm ?_;refine Zx ?_;refine Zx ?_;refine Za ?_;refine Za ?_;refine cw 3 4 6 7 9 10 11 12 36 (az ?_);refine Zm ?_;refine Zm ?_;refine dq ?_;refine Za ?_;refine cw 3 4 6 7 9 10 11 12 36 (az ?_);refine Zm ?_;refine qK ?_;refine dr 3 4 6 7 9 10 11 12 36 47 (Zt ?_);refine Cd.cond rfl (fun h2=> ?_) (fun h2=> ?_)
   ·simp at h2
    rw[decide_eq_false (by omega),Bool.false_and] at hb;refine ah ?_;refine Za ?_;refine ct 2 3 4 6 7 9 10 11 12 36 47 (Zt (Cd.ret (ab.af (ab.ae (ab.aJ (ab.af (ab.ae ?_)))))));refine aP ?_;exact⟨aO (aB hb),bel⟩
   ·simp at h2
    rw[decide_eq_true (by omega),Bool.true_and] at hb;refine Cd.skip (ab.ag (et ?_));refine dq ?_;refine Zm ?_;refine dr 3 4 6 7 9 10 11 12 36 47 ?_;exact ab.round (k+1,s+x.term.nodes) ⟨rfl,rfl,rfl,rfl,rfl,trivial⟩ ⟨by simp only;omega,by simp only;omega,hb,bel⟩ (by simp only;omega)
 ·obtain rfl:k=n:=by omega
  rw[List.drop_of_length_le (by omega),iT] at hb;refine Cd.exit (ab.aD (ab.ay (ab.aA (az ?_))));refine Za ?_;refine ba 2 3 4 9 10 11 12 (Zt (Cd.ret ?_));refine aP ?_;exact⟨aO (aB hb),bel⟩
structure Ct where
 id:List Nat
 aY:List Nat
 writer:List Nat
 text:List Nat
 born:Int
 ended : Int
 state:Int
 parts:List Pt
def Ct.v (k:Ct)(A:Option Addr)(c:Nat):Value:= .agg #[.string (strOf k.id), .string (strOf k.aY), .string (strOf k.writer), .string (strOf k.text), .int .i64 k.born, .int .i64 k.ended, .int .i64 k.state, .slice A k.parts.length c]
structure Ct.qk (k:Ct):Prop where
 id:∀x∈k.id,x<256
 BE:k.id.length≤9223372036854775807
 aY:∀x∈k.aY,x<256
 yL:k.aY.length≤9223372036854775807
 writer:∀x∈k.writer,x<256
 yx:k.writer.length≤9223372036854775807
 text:∀x∈k.text,x<256
 oe:k.text.length≤9223372036854775807
 born:bu k.born
 ended : bu k.ended
 state:bu k.state
 parts:k.parts.length≤1000
 flat:∀p∈k.parts,p.flat
def uT (n:Int):Bool:=decide (0≤n)&&decide (n≤2932896)
def gV (k:Ct):Bool:=
 (eh k.text&&decide (nF (bM k.text).1=0)&&cg k.id&&cg k.aY&&cg k.writer&& !decide (k.aY=k.writer)&&uT k.born&&uT k.ended)&&
 (if k.state=1 then decide (k.ended=0)&&iT 0 k.parts else if k.state=2∨k.state=3 then decide (k.parts.length=0) else false)
theorem lQ (s:List Nat):(bM s).1.depth≤900:=by
 by_cases h:(bM s).2.2=0
 ·have:=(ew (lh h).1).2.2
  omega
 ·rw[pJ h]
  decide
theorem lk (k:Ct)(B:Nat)(A:Option Addr)(c:Nat)(w:World)(hk:k.qk)(hv:jx w B k.parts A)(hB:B≤w.heap.size):Calls Tryz.prog 21 #[k.v A c] w fun en w'=>en= .returned (.bool (gV k))∧Grow w w':=by
 have bel:=Below.refl w.heap.size w;have hha:=hk.aY;have hwr:=hk.writer;have y1:=fun W=>eH k.id W hk.id hk.BE;have y2:=fun W=>eH k.aY W hk.aY hk.yL;have y3:=fun W=>eH k.writer W hk.writer hk.yx;have y4:=fun W=>nf k.text W hk.text hk.oe;have y5:=fun W=>tI k.born W;have y6:=fun W=>tI k.ended W;have y7:=fun W v hr=>pL (bM k.text).1 _ v W (lQ k.text) hr (Nat.le_refl _);have y8:=fun W (hb:Below w.heap.size w W)=>oK k.parts B A c W hk.parts (hv.below (hb.mono hB)) (Nat.le_trans hB hb.size) hk.flat;have h61:=hk.parts
 have hso:gV k=((eh k.text&&decide (nF (bM k.text).1=0)&&cg k.id&&cg k.aY&&cg k.writer&& !decide (k.aY=k.writer)&&uT k.born&&uT k.ended)&&
  (if k.state=1 then decide (k.ended=0)&&iT 0 k.parts else if k.state=2∨k.state=3 then decide (k.parts.length=0) else false)):=rfl
 unfold uT at hso;unfold Ct.v
 generalize gV k=so at hso⊢
 generalize (bM k.text).1=t at y4 y7 hso
 generalize eh k.text=b0 at y4 hso
 generalize cg k.id=b1 at y1 hso
 generalize cg k.aY=b2 at y2 hso
 generalize cg k.writer=b3 at y3 hso
 generalize iT 0 k.parts=b8 at y8 hso
 generalize nF t=f at y7 hso
 refine Zs 74 Tryz.func21 ?_;refine ah ?_;refine Seq.box rfl rfl rfl rfl rfl ?_;intro g1 w1 n1;have e1:=Nat.le_trans bel.size n1.ge;replace bel:=bel.step n1.below;have k1:=n1.an;refine Za ?_;refine bk 0 1 2 (az ?_);refine Zf 3 Tryz.underlying52 ?_;refine ZL Tryz.underlying9 k1 ?_;refine Zc (Ze Tryz.func36) (y4 _) ?_;rintro en w5 ⟨hb5,v,S,rfl,hrep,hS⟩;obtain⟨A1,c1,A2,c2,hvX⟩:=hrep.form;subst hvX;refine⟨_,rfl,?_⟩;have hp1:=k1.lt;replace bel:=bel.step hb5;replace k1:=k1.step hb5;have rs:uv _ w5.heap.size S t (.agg #[.int .i64 t.op, .string (strOf t.name), .slice A1 t.exprs.length c1, .slice A2 t.aw.length c2]) w5:=⟨hrep,hS,Nat.le_refl _⟩;refine Zm ?_;refine Zx ?_;refine Zx ?_;refine Zl aK ?_;intro g3 w2 n3;have q3:=n3.ge;have e3:=Nat.le_trans bel.size n3.ge;have l3:=Nat.lt_of_lt_of_le k1.lt n3.ge;replace bel:=bel.step n3.below;replace k1:=k1.step n3.below;replace rs:=rs.step n3.below;have k3:=n3.an;refine Zo 4 k3 ?_;intro w3 pw3;replace bel:=bel.put k3 pw3 e3;replace k1:=k1.put pw3 (by omega);replace rs:=rs.put k3 pw3 e3;replace k3:=pw3.an;have k3:aE _ g3 71 #[.int .i64 t.op, .string (strOf t.name), .slice A1 t.exprs.length c1, .slice A2 t.aw.length c2]:=k3;refine Za ?_;refine aL 0 1 2 3 4 (aH (ah ?_));refine Zm ?_;refine gU ?_;refine Zm ?_;refine ar.start ?_;refine bB (fun hcx=>aa.dx rfl rfl Tryz.underlying71 rfl k3 (m:=4) (by kernel_rfl) rfl) ?_;refine ar.aW rfl rfl rfl rfl rfl rfl rfl (fun hcx=>Ze Tryz.func61) (fun hcx=>y7 _ _ (rs.rep.mono (fun b hb=>Nat.lt_of_lt_of_le (rs.bd b hb).2 rs.dA) (fun _ _=>rfl))) ?_;intro w4 hw4;replace bel:=bel.step hw4;replace k1:=k1.step hw4;replace rs:=rs.step hw4;replace k3:=k3.step hw4;refine Zn (fun hcx=>aa.bT rfl rfl rfl) ?_;refine fh ?_;refine Zm ?_;refine ar.start ?_;refine bB (fun hcx=>aa.aj 0 rfl rfl Tryz.underlying52 rfl (by kernel_rfl)) ?_;refine Zn (fun hcx=>aa.ak rfl rfl Tryz.underlying9 rfl k1 rfl) ?_;refine ar.aW rfl rfl rfl rfl rfl rfl rfl (fun hcx=>Ze Tryz.func62) (fun hcx=>y1 _) ?_;intro w5 hw5;replace bel:=bel.step hw5;replace k1:=k1.step hw5;replace rs:=rs.step hw5;replace k3:=k3.step hw5;refine Zn (fun hcx=>aa.not rfl rfl) ?_;refine fh ?_;refine Zm ?_;refine ar.start ?_;refine bB (fun hcx=>aa.aj 1 rfl rfl Tryz.underlying52 rfl (by kernel_rfl)) ?_;refine Zn (fun hcx=>aa.ak rfl rfl Tryz.underlying9 rfl k1 rfl) ?_;refine ar.aW rfl rfl rfl rfl rfl rfl rfl (fun hcx=>Ze Tryz.func62) (fun hcx=>y2 _) ?_;intro w6 hw6;replace bel:=bel.step hw6;replace k1:=k1.step hw6;replace rs:=rs.step hw6;replace k3:=k3.step hw6;refine Zn (fun hcx=>aa.not rfl rfl) ?_;refine fh ?_;refine Zm ?_;refine ar.start ?_;refine bB (fun hcx=>aa.aj 2 rfl rfl Tryz.underlying52 rfl (by kernel_rfl)) ?_;refine Zn (fun hcx=>aa.ak rfl rfl Tryz.underlying9 rfl k1 rfl) ?_;refine ar.aW rfl rfl rfl rfl rfl rfl rfl (fun hcx=>Ze Tryz.func62) (fun hcx=>y3 _) ?_;intro w7 hw7;replace bel:=bel.step hw7;replace k1:=k1.step hw7;replace rs:=rs.step hw7;replace k3:=k3.step hw7;refine Zn (fun hcx=>aa.not rfl rfl) ?_;refine fh ?_;refine Zm ?_;refine ar.start ?_;refine bB (fun hcx=>aa.aj 1 rfl rfl Tryz.underlying52 rfl (by kernel_rfl)) ?_;refine Zn (fun hcx=>aa.ak rfl rfl Tryz.underlying9 rfl k1 rfl) ?_;refine Zn (fun hcx=>aa.aj 2 rfl rfl Tryz.underlying52 rfl (by kernel_rfl)) ?_;refine Zn (fun hcx=>aa.ak rfl rfl Tryz.underlying9 rfl k1 rfl) ?_;refine Zn (fun hcx=>aa.ck (a:=k.aY) (b:=k.writer) rfl rfl rfl hha hwr) ?_;refine fh ?_;refine Zm ?_;refine ar.start ?_;refine bB (fun hcx=>aa.aj 4 rfl rfl Tryz.underlying52 rfl (by kernel_rfl)) ?_;refine Zn (fun hcx=>aa.ak rfl rfl Tryz.underlying3 rfl k1 rfl) ?_;refine ar.aW rfl rfl rfl rfl rfl rfl rfl (fun hcx=>Ze Tryz.func37) (fun hcx=>y5 _) ?_;intro w8 hw8;replace bel:=bel.step hw8;replace k1:=k1.step hw8;replace rs:=rs.step hw8;replace k3:=k3.step hw8;refine Zn (fun hcx=>aa.not rfl rfl) ?_;refine fh ?_;refine Zm ?_;refine ar.start ?_;refine bB (fun hcx=>aa.aj 5 rfl rfl Tryz.underlying52 rfl (by kernel_rfl)) ?_;refine Zn (fun hcx=>aa.ak rfl rfl Tryz.underlying3 rfl k1 rfl) ?_;refine ar.aW rfl rfl rfl rfl rfl rfl rfl (fun hcx=>Ze Tryz.func37) (fun hcx=>y6 _) ?_;intro w9 hw9;replace bel:=bel.step hw9;replace k1:=k1.step hw9;replace rs:=rs.step hw9;replace k3:=k3.step hw9;refine Zn (fun hcx=>aa.not rfl rfl) ?_;refine fh ?_;refine aV 0 1 2 3 4 54 (Zt ?_);refine Cd.cond rfl (fun h=> ?_) (fun h=> ?_)
 ·simp at h
  have hs0:so=false:=by
   rw[hso,Bool.and_eq_false_iff];refine .inl ?_;simp
   grind
  refine ah ?_;refine Za ?_;refine aV 0 1 2 3 4 54 (Zt (Cd.ret (ab.ae ?_)));refine aP ?_;exact⟨aO (aB hs0.symm),bel⟩
 ·simp at h
  have hs0:so=(if k.state=1 then decide (k.ended=0)&&b8 else if k.state=2∨k.state=3 then decide (k.parts.length=0) else false):=by
   rw[hso]
   have:(b0&&decide (f=0)&&b1&&b2&&b3&& !decide (k.aY=k.writer)&&(decide (0≤k.born)&&decide (k.born≤2932896))&&(decide (0≤k.ended)&&decide (k.ended≤2932896)))=true:=by
    simp
    grind
   rw[this,Bool.true_and]
  clear hso;refine Cd.skip (aH (ah ?_));refine Zf 6 Tryz.underlying52 ?_;refine ZL Tryz.underlying3 k1 ?_;refine ba 0 1 2 3 4 54 56 (Zt (Cd.block (ah ?_)));refine aX ?_;refine Za ?_;refine bO 0 1 2 3 4 54 56 57 (Zt ?_);refine Cd.ao rfl (fun hc=> ?_) (fun hc=> ?_)
  ·rw[if_pos hc] at hs0
   refine ah ?_;refine Zf 5 Tryz.underlying52 ?_;refine ZL Tryz.underlying3 k1 ?_;refine aX ?_;refine Zm ?_;refine ar.start ?_;refine bB (fun hcx=>aa.aj 7 rfl rfl Tryz.underlying52 rfl (by kernel_rfl)) ?_;refine Zn (fun hcx=>aa.ak rfl rfl Tryz.underlying50 rfl k1 rfl) ?_;refine ar.aW rfl rfl rfl rfl rfl rfl rfl (fun hcx=>Ze Tryz.func63) (fun hcx=>y8 _ bel) ?_;intro w10 hw10;replace bel:=bel.step hw10;replace k1:=k1.step hw10;replace rs:=rs.step hw10;replace k3:=k3.step hw10;refine dL ?_;refine Za ?_;refine bO 0 1 2 3 4 54 56 57 (Zt (Cd.ret (ab.af (ab.ae ?_))));refine aP ?_;exact⟨aO (aB (by rw[hs0];try (cases decide (k.ended=0)<;>rfl))),bel⟩
  ·rw[if_neg hc] at hs0
   refine Cd.seq (ah ?_);refine aX ?_;refine Za ?_;refine cw 0 1 2 3 4 54 56 57 67 (Zt ?_);refine Cd.cond rfl (fun h2=> ?_) (fun h2=> ?_)
   ·skip
    refine Cd.skip (Zt ?_);refine Cd.aM rfl h2 ?_;simp at h2;rw[if_pos (by omega)] at hs0;refine ah ?_;refine Zf 7 Tryz.underlying52 ?_;refine ZL Tryz.underlying50 k1 ?_;refine Zv (aa.len rfl rfl Tryz.underlying50) ?_;refine aX ?_;refine Za ?_;refine cw 0 1 2 3 4 54 56 57 67 (Zt (Cd.ret (ab.af (ab.ae ?_))));refine aP ?_;exact⟨aO (aB (by rw[hs0];try simp)),bel⟩
   ·simp at h2
    refine Zr ?_;refine aX ?_;refine Za ?_;refine cw 0 1 2 3 4 54 56 57 67 (Zt ?_);refine Cd.cond rfl (fun h3=> ?_) (fun h3=> ?_)
    ·simp at h3
     rw[if_pos (by omega)] at hs0;refine ah ?_;refine Zf 7 Tryz.underlying52 ?_;refine ZL Tryz.underlying50 k1 ?_;refine Zv (aa.len rfl rfl Tryz.underlying50) ?_;refine aX ?_;refine Za ?_;refine cw 0 1 2 3 4 54 56 57 67 (Zt (Cd.ret (ab.af (ab.ae ?_))));refine aP ?_;exact⟨aO (aB (by rw[hs0];try simp)),bel⟩
    ·simp at h3
     rw[if_neg (by omega)] at hs0;refine Cd.skip (ab.ag (az ?_));refine Za ?_;refine cw 0 1 2 3 4 54 56 57 67 (Zt (Cd.ret ?_));refine aP ?_;exact⟨aO (aB hs0.symm),bel⟩
def nD (k:Int):Ev:=⟨k,[],[],[],[],0,0,0,0⟩
theorem kx (a:Int)(w:World):(Instr.build 29 #[(0, .int .i64 a)]).run Tryz.prog w= .ok (nD a).v w:=by kernel_rfl
theorem tH {e:Ev}(h:e.qk):(ik e).qk:=by
 have hn:∀x∈([]:List Nat),x<256:=fun x h=>by cases h
 have h0:bu 0:=by unfold bu;omega
 have hl:([]:List Nat).length≤9223372036854775807:=Nat.zero_le _;obtain⟨a1,a2,a3,a4,a5,a6,a7,a8,a9,b1,b2,b3,b4⟩:=h;unfold ik
 repeat' split
 all_goals constructor<;>first|assumption
theorem uY {k:Int}(h:bu k):(nD k).qk:=by
 have h0:bu 0:=by unfold bu;omega
 have hn:∀x∈([]:List Nat),x<256:=fun x h=>by cases h
 exact⟨h,hn,hn,hn,hn,h0,h0,h0,h0,Nat.zero_le _,Nat.zero_le _,Nat.zero_le _,Nat.zero_le _⟩
def fD (e:Ev):Bool:=(decide (1≤e.kind)&&decide (e.kind≤7))&&decide (ik e=nD e.kind)&&mQ e&&(decide (e.kind≠1)||eh e.text)&&(decide (0≤e.day)&&decide (e.day≤2932896))&&(decide (0≤e.at_)&&decide (e.at_<200)&&(decide (e.eQ=0)||decide (e.eQ=1)))
set_option maxHeartbeats 1000000 in
theorem rX (e:Ev)(he:e.qk)(w:World):Calls Tryz.prog 13 #[e.v] w fun en w'=>en= .returned (.bool (fD e))∧Grow w w':=by
 have bel:=Below.refl w.heap.size w;have hneq:=fun W=>sm (ik e) (nD e.kind) W;rw[zq (tH he) (uY he.kind)] at hneq;have hbl:=fun W=>vZ e W;have hnm:=fun W=>wi e he W;have hpr:=fun W=>nf e.text W he.text he.oe;have hday:=fun W=>tI e.day W;unfold Ev.v at hbl hnm⊢;have hF:∀ {b:Bool},b=false→∀c d,(b&&c&&d)=false:=fun h c d=>by rw[h];rfl
 refine Zs 60 Tryz.func13 ?_;refine ah ?_;refine Seq.box rfl rfl rfl rfl rfl ?_;intro g1 w1 n1;have e1:=Nat.le_trans bel.size n1.ge;replace bel:=bel.step n1.below;have k1:=n1.an;refine Za ?_;refine bk 0 1 2 (aH (Cd.seq ?_))
 by_cases c1:e.kind<1
 ·skip
  refine gm 21 ?_;intro w2 hw2 zw2;replace bel:=bel.step hw2;replace k1:=k1.step hw2;have zbel:=bel.size;have zlt:=k1.lt;refine gw 0 Tryz.underlying29 ?_;refine fb Tryz.underlying3 k1 ?_;refine Zd (fun w hG=>(aa.lss rfl rfl rfl).lC (by omega)) ?_;refine fN ?_;refine mq ?_;refine mq ?_;refine mq ?_;refine Zd (fun w hG=>aa.cr rfl rfl rfl) ?_;refine fN ?_;refine mq ?_;refine mq ?_;refine mq ?_;refine mq ?_;refine mq ?_;refine mq ?_;refine Zd (fun w hG=>aa.cr rfl rfl rfl) ?_;refine fN ?_;refine mq ?_;refine mq ?_;refine mq ?_;refine Zd (fun w hG=>aa.cr rfl rfl rfl) ?_;refine Dr.nil ?_;refine bH.done (F':=[(0,_),(1,_),(2,_),(25,_)]) rfl ⟨rfl,rfl,rfl,rfl,trivial⟩ ?_;intro w3 hw3 fw3;replace bel:=bel.step hw3;replace k1:=k1.step hw3;refine aS 0 1 2 25 (Zt ?_);refine Cd.aM rfl rfl ?_;refine ah ?_;refine Za ?_;refine aS 0 1 2 25 (Zt (Cd.ret (ab.ae ?_)));refine aP ?_;exact⟨aO (aB (by unfold fD;rw[decide_eq_false (by omega)];rfl)),bel⟩
 by_cases c2:7<e.kind
 ·skip
  refine gm 21 ?_;intro w2 hw2 zw2;replace bel:=bel.step hw2;replace k1:=k1.step hw2;have zbel:=bel.size;have zlt:=k1.lt;refine gw 0 Tryz.underlying29 ?_;refine fb Tryz.underlying3 k1 ?_;refine Zd (fun w hG=>(aa.lss rfl rfl rfl).jv (by omega)) ?_;refine fN ?_;refine ow (fun w hG=>aa.aj 0 rfl rfl Tryz.underlying29 rfl (by kernel_rfl)) ?_;refine ow (fun w hG=>aa.ak rfl rfl Tryz.underlying3 rfl (k1.step hG) rfl) ?_;refine ow (fun w hG=>(aa.gtr rfl rfl rfl).lC (by omega)) ?_;refine Zd (fun w hG=>aa.bD rfl rfl rfl) ?_;refine fN ?_;refine mq ?_;refine mq ?_;refine mq ?_;refine mq ?_;refine mq ?_;refine mq ?_;refine Zd (fun w hG=>aa.cr rfl rfl rfl) ?_;refine fN ?_;refine mq ?_;refine mq ?_;refine mq ?_;refine Zd (fun w hG=>aa.cr rfl rfl rfl) ?_;refine Dr.nil ?_;refine bH.done (F':=[(0,_),(1,_),(2,_),(25,_)]) rfl ⟨rfl,rfl,rfl,rfl,trivial⟩ ?_;intro w3 hw3 fw3;replace bel:=bel.step hw3;replace k1:=k1.step hw3;refine aS 0 1 2 25 (Zt ?_);refine Cd.aM rfl rfl ?_;refine ah ?_;refine Za ?_;refine aS 0 1 2 25 (Zt (Cd.ret (ab.ae ?_)));refine aP ?_;exact⟨aO (aB (by unfold fD;rw[decide_eq_false (show¬e.kind≤7 by omega),Bool.and_false];rfl)),bel⟩
 have hk:decide (1≤e.kind)=true∧decide (e.kind≤7)=true:=⟨decide_eq_true (by omega),decide_eq_true (by omega)⟩
 by_cases c3:ik e=nD e.kind
 ·have hne:(!decide (ik e=nD e.kind))=false:=by rw[decide_eq_true c3];rfl
  rw[hne] at hneq;refine gm 21 ?_;intro w2 hw2 zw2;replace bel:=bel.step hw2;replace k1:=k1.step hw2;have zbel:=bel.size;have zlt:=k1.lt;refine gw 0 Tryz.underlying29 ?_;refine fb Tryz.underlying3 k1 ?_;refine Zd (fun w hG=>(aa.lss rfl rfl rfl).jv (by omega)) ?_;refine fN ?_;refine ow (fun w hG=>aa.aj 0 rfl rfl Tryz.underlying29 rfl (by kernel_rfl)) ?_;refine ow (fun w hG=>aa.ak rfl rfl Tryz.underlying3 rfl (k1.step hG) rfl) ?_;refine ow (fun w hG=>(aa.gtr rfl rfl rfl).jv (by omega)) ?_;refine Zd (fun w hG=>aa.bD rfl rfl rfl) ?_;refine fN ?_;refine ow (fun w hG=>aa.dx rfl rfl Tryz.underlying29 rfl (k1.step hG) (m:=9) (by kernel_rfl) rfl) ?_;refine Dr.td rfl (fun w=>Ze Tryz.func34) rfl rfl rfl (fun w hG=>hbl w) ?_;refine ow (fun w hG=>aa.aj 0 rfl rfl Tryz.underlying29 rfl (by kernel_rfl)) ?_;refine ow (fun w hG=>aa.ak rfl rfl Tryz.underlying3 rfl (k1.step hG) rfl) ?_;refine ow (fun w hG=>aa.build rfl rfl (kx _ w)) ?_;refine ow (fun w hG=>aa.bin rfl rfl rfl (rb _ _ _ _ _ w) (hneq w)) ?_;refine Zd (fun w hG=>aa.bD rfl rfl rfl) ?_;refine fN ?_;refine ow (fun w hG=>aa.dx rfl rfl Tryz.underlying29 rfl (k1.step hG) (m:=9) (by kernel_rfl) rfl) ?_;refine Dr.td rfl (fun w=>Ze Tryz.func35) rfl rfl rfl (fun w hG=>hnm w) ?_;refine ow (fun w hG=>aa.not rfl rfl) ?_;refine Zd (fun w hG=>aa.bD rfl rfl rfl) ?_;refine Dr.nil ?_;refine bH.done (F':=[(0,_),(1,_),(2,_),(25,_)]) rfl ⟨rfl,rfl,rfl,rfl,trivial⟩ ?_;intro w3 hw3 fw3;replace bel:=bel.step hw3;replace k1:=k1.step hw3;refine aS 0 1 2 25 (Zt ?_);refine Cd.cond rfl (fun h4=> ?_) (fun h4=> ?_)
  ·skip
   refine ah ?_;refine Za ?_;refine aS 0 1 2 25 (Zt (Cd.ret (ab.ae ?_)));refine aP ?_;have h4:mQ e=false:=by simpa using h4
   exact⟨aO (aB (by unfold fD;rw[h4];simp)),bel⟩
  have h4:mQ e=true:=by simpa using h4
  refine Cd.skip (aH (ah ?_));refine Zf 0 Tryz.underlying29 ?_;refine ZL Tryz.underlying3 k1 ?_;refine aX ?_;refine aL 0 1 2 25 28 (Zt ?_);refine Cd.ao rfl (fun h5=> ?_) (fun h5=> ?_)
  ·skip
   refine ah ?_;refine Zf 4 Tryz.underlying29 ?_;refine ZL Tryz.underlying9 k1 ?_;refine Zc (Ze Tryz.func36) (hpr _) ?_;rintro en w8 ⟨hb8,v,S,rfl,hrep,hS⟩;obtain⟨A1,d1,A2,d2,hvX⟩:=hrep.form;subst hvX;refine⟨_,rfl,?_⟩;replace bel:=bel.step hb8;replace k1:=k1.step hb8;refine Zm ?_;refine Zx ?_;refine Zx ?_;refine Zl aK ?_;intro g3 w4 n3;have e3:=Nat.le_trans bel.size n3.ge;have l3:=Nat.lt_of_lt_of_le k1.lt n3.ge;replace bel:=bel.step n3.below;replace k1:=k1.step n3.below;have k3:=n3.an;refine Zo 4 k3 ?_;intro w5 pw5;replace bel:=bel.put k3 pw5 e3;replace k1:=k1.put pw5 (by omega);replace k3:=pw5.an;refine Za ?_;refine aV 0 1 2 4 25 28 (az ?_);refine Zm ?_;refine gU ?_;refine ba 0 1 2 4 25 28 36 (Zt ?_);refine Cd.cond rfl (fun h6=> ?_) (fun h6=> ?_)
   ·skip
    refine ah ?_;refine Za ?_;refine ba 0 1 2 4 25 28 36 (Zt (Cd.ret (ab.ae ?_)));refine aP ?_;have h6:eh e.text=false:=by simpa using h6
    exact⟨aO (aB (by unfold fD;rw[h6,decide_eq_false (show¬e.kind≠1 from fun h=>h h5)];simp)),bel⟩
   have h6:eh e.text=true:=by simpa using h6
   refine Cd.skip (az ?_);refine Zf 5 Tryz.underlying29 ?_;refine ZL Tryz.underlying3 k1 ?_;refine Zc (Ze Tryz.func37) (hday _) ?_;rintro en w9 ⟨rfl,hb9⟩;refine⟨_,rfl,?_⟩;replace bel:=bel.step hb9;replace k1:=k1.step hb9;replace k3:=k3.step hb9;refine Zm ?_;refine ar.start ?_;refine bB (fun hcx=>aa.aj 6 rfl rfl Tryz.underlying29 rfl (by kernel_rfl)) ?_;refine Zn (fun hcx=>aa.ak rfl rfl Tryz.underlying3 rfl k1 rfl) ?_;refine Zn (fun hcx=>aa.geq rfl rfl rfl) ?_;refine dL ?_;refine Zm ?_;refine ar.start ?_;refine bB (fun hcx=>aa.aj 6 rfl rfl Tryz.underlying29 rfl (by kernel_rfl)) ?_;refine Zn (fun hcx=>aa.ak rfl rfl Tryz.underlying3 rfl k1 rfl) ?_;refine Zn (fun hcx=>aa.lss rfl rfl rfl) ?_;refine dL ?_;refine Zm ?_;refine ar.start ?_;refine bB (fun hcx=>aa.aj 7 rfl rfl Tryz.underlying29 rfl (by kernel_rfl)) ?_;refine Zn (fun hcx=>aa.ak rfl rfl Tryz.underlying3 rfl k1 rfl) ?_;refine Zn (fun hcx=>aa.fK rfl rfl rfl) ?_;refine jL ?_;refine bB (fun hcx=>aa.aj 7 rfl rfl Tryz.underlying29 rfl (by kernel_rfl)) ?_;refine Zn (fun hcx=>aa.ak rfl rfl Tryz.underlying3 rfl k1 rfl) ?_;refine Zn (fun hcx=>aa.fK rfl rfl rfl) ?_;refine ar.AU rfl rfl rfl rfl rfl rfl rfl rfl rfl rfl rfl ?_;refine dL ?_;refine Za ?_;refine ba 0 1 2 4 25 28 36 (Zt (Cd.ret ?_));refine aP ?_;refine⟨aO (aB ?_),bel⟩;unfold fD;rw[hk.1,hk.2,decide_eq_true c3,h4,h6,Bool.or_true];simp[Bool.and_assoc]
  ·skip
   refine Cd.skip (az ?_);refine Zf 5 Tryz.underlying29 ?_;refine ZL Tryz.underlying3 k1 ?_;refine Zc (Ze Tryz.func37) (hday _) ?_;rintro en w9 ⟨rfl,hb9⟩;refine⟨_,rfl,?_⟩;replace bel:=bel.step hb9;replace k1:=k1.step hb9;refine Zm ?_;refine ar.start ?_;refine bB (fun hcx=>aa.aj 6 rfl rfl Tryz.underlying29 rfl (by kernel_rfl)) ?_;refine Zn (fun hcx=>aa.ak rfl rfl Tryz.underlying3 rfl k1 rfl) ?_;refine Zn (fun hcx=>aa.geq rfl rfl rfl) ?_;refine dL ?_;refine Zm ?_;refine ar.start ?_;refine bB (fun hcx=>aa.aj 6 rfl rfl Tryz.underlying29 rfl (by kernel_rfl)) ?_;refine Zn (fun hcx=>aa.ak rfl rfl Tryz.underlying3 rfl k1 rfl) ?_;refine Zn (fun hcx=>aa.lss rfl rfl rfl) ?_;refine dL ?_;refine Zm ?_;refine ar.start ?_;refine bB (fun hcx=>aa.aj 7 rfl rfl Tryz.underlying29 rfl (by kernel_rfl)) ?_;refine Zn (fun hcx=>aa.ak rfl rfl Tryz.underlying3 rfl k1 rfl) ?_;refine Zn (fun hcx=>aa.fK rfl rfl rfl) ?_;refine jL ?_;refine bB (fun hcx=>aa.aj 7 rfl rfl Tryz.underlying29 rfl (by kernel_rfl)) ?_;refine Zn (fun hcx=>aa.ak rfl rfl Tryz.underlying3 rfl k1 rfl) ?_;refine Zn (fun hcx=>aa.fK rfl rfl rfl) ?_;refine ar.AU rfl rfl rfl rfl rfl rfl rfl rfl rfl rfl rfl ?_;refine dL ?_;refine Za ?_;refine aL 0 1 2 25 28 (Zt (Cd.ret ?_));refine aP ?_;refine⟨aO (aB ?_),bel⟩;unfold fD;rw[hk.1,hk.2,decide_eq_true c3,h4,decide_eq_true h5,Bool.true_or];simp[Bool.and_assoc]
 ·have hne:(!decide (ik e=nD e.kind))=true:=by rw[decide_eq_false c3];rfl
  rw[hne] at hneq;refine gm 21 ?_;intro w2 hw2 zw2;replace bel:=bel.step hw2;replace k1:=k1.step hw2;have zbel:=bel.size;have zlt:=k1.lt;refine gw 0 Tryz.underlying29 ?_;refine fb Tryz.underlying3 k1 ?_;refine Zd (fun w hG=>(aa.lss rfl rfl rfl).jv (by omega)) ?_;refine fN ?_;refine ow (fun w hG=>aa.aj 0 rfl rfl Tryz.underlying29 rfl (by kernel_rfl)) ?_;refine ow (fun w hG=>aa.ak rfl rfl Tryz.underlying3 rfl (k1.step hG) rfl) ?_;refine ow (fun w hG=>(aa.gtr rfl rfl rfl).jv (by omega)) ?_;refine Zd (fun w hG=>aa.bD rfl rfl rfl) ?_;refine fN ?_;refine ow (fun w hG=>aa.dx rfl rfl Tryz.underlying29 rfl (k1.step hG) (m:=9) (by kernel_rfl) rfl) ?_;refine Dr.td rfl (fun w=>Ze Tryz.func34) rfl rfl rfl (fun w hG=>hbl w) ?_;refine ow (fun w hG=>aa.aj 0 rfl rfl Tryz.underlying29 rfl (by kernel_rfl)) ?_;refine ow (fun w hG=>aa.ak rfl rfl Tryz.underlying3 rfl (k1.step hG) rfl) ?_;refine ow (fun w hG=>aa.build rfl rfl (kx _ w)) ?_;refine ow (fun w hG=>aa.bin rfl rfl rfl (rb _ _ _ _ _ w) (hneq w)) ?_;refine Zd (fun w hG=>aa.bD rfl rfl rfl) ?_;refine fN ?_;refine mq ?_;refine mq ?_;refine mq ?_;refine Zd (fun w hG=>aa.cr rfl rfl rfl) ?_;refine Dr.nil ?_;refine bH.done (F':=[(0,_),(1,_),(2,_),(25,_)]) rfl ⟨rfl,rfl,rfl,rfl,trivial⟩ ?_;intro w3 hw3 fw3;replace bel:=bel.step hw3;replace k1:=k1.step hw3;refine aS 0 1 2 25 (Zt ?_);refine Cd.aM rfl rfl ?_;refine ah ?_;refine Za ?_;refine aS 0 1 2 25 (Zt (Cd.ret (ab.ae ?_)));refine aP ?_;exact⟨aO (aB (by unfold fD;rw[decide_eq_false c3];simp)),bel⟩
section
variable {P:Program} {E:Operand→Option Value} {o:Oper} {w:World} {x y:Operand} {T:TypeId}
end
section
variable {P:Program} {E:Operand→Option Value} {o:Oper} {w:World} {x:Operand} {T:TypeId}
end
structure Wf (B:Nat)(w w':World):Prop where
 below:Below (min B w.heap.size) w w'
 bL:∀k t cs,aE w k t cs→t≠76→t≠5→aE w' k t cs
section
variable {B:Nat} {w w' w'':World}
theorem Wf.refl (B:Nat)(w:World):Wf B w w:=⟨Below.refl _ _,fun _ _ _ h _ _=>h⟩
theorem Wf.trans (h:Wf B w w')(k:Wf B w' w''):Wf B w w'':=⟨h.below.trans (k.below.mono (by have:=h.below.size;omega)),fun i t cs hb h1 h2=>k.bL i t cs (h.bL i t cs hb h1 h2) h1 h2⟩
theorem Wf.grow (h:Below w.heap.size w w'):Wf B w w':=⟨h.mono (Nat.min_le_right _ _),fun _ _ _ hb _ _=>hb.step h⟩
theorem Wf.step (h:Wf B w w')(k:Below w'.heap.size w' w''):Wf B w w'':=h.trans (Wf.grow k)
theorem Wf.wf (h:Wf B w w')(k:Wf B w' w''):Wf B w w'':=h.trans k
theorem Wf.to (h:Wf B w w')(hB:B≤w.heap.size):Below B w w':=by have:=h.below;rwa [Nat.min_eq_left hB] at this
theorem Wf.uz {g B':Nat}{T:TypeId}{cur cs:Array Value}(h:Wf B w w')(k:aE w' g T cur)(p:gI w' w'' g T cs)(e:B'≤g)(hB:B≤g)(hT:T=76∨T=5):Wf B w w'':=
 h.trans ⟨(p.below hB k.lt).mono (Nat.min_le_left _ _),fun i t cs hb h1 h2=>hb.put p (hb.ne k (by rcases hT with rfl|rfl<;>assumption))⟩
theorem Wf.put {g:Nat}{T:TypeId}{cur cs:Array Value}(h:Wf B w w')(k:aE w' g T cur)(p:gI w' w'' g T cs)(e:w.heap.size≤g):Wf B w w'':=
 ⟨h.below.trans (p.below (by omega) k.lt),fun i t cs hb h1 h2=>(h.bL i t cs hb h1 h2).put p (by have:=hb.lt;omega)⟩
end
theorem aE.wf {B:Nat}{w w':World}{k:Nat}{t:TypeId}{cs:Array Value}(h:aE w k t cs)(f:Wf B w w')(h1:t≠76:=by decide)(h2:t≠5:=by decide):aE w' k t cs:=f.bL k t cs h h1 h2
theorem Reads.wf {B B2 size n:Nat}{w w':World}{A:Option Addr}{xs:List Value}(h:Reads w B2 size A n xs)(f:Wf B w w')(hB:B2≤B)(hs:B2≤w.heap.size):Reads w' B2 size A n xs:=h.below (f.below.mono (by omega))
structure Wr (w:World)(B g:Nat)(bs:List Nat):Prop where
 ge:B≤g
 bytes:∀d∈bs,d<256
 cell:∃v,aE w g 76 #[v]∧Own w B 5 1 v bs.length (Bt bs)
theorem Wr.size {w:World}{B g:Nat}{bs:List Nat}(h:Wr w B g bs):B≤w.heap.size:=by
 obtain⟨v,hb,-⟩:=h.cell;have:=hb.lt;have:=h.ge;omega
theorem Wr.step {w w':World}{B g:Nat}{bs:List Nat}(h:Wr w B g bs)(k:Below w.heap.size w w'):Wr w' B g bs:=by
 obtain⟨v,hb,ho⟩:=h.cell;exact⟨h.ge,h.bytes,v,hb.step k,ho.step k⟩
theorem Wr.put {w w':World}{B B' g g':Nat}{bs:List Nat}{T:TypeId}{cur cs:Array Value}(h:Wr w B g bs)(k:aE w g' T cur)(p:gI w w' g' T cs)(_e:B'≤g')(h1:76≠T:=by decide)(h2:5≠T:=by decide):Wr w' B g bs:=by
 obtain⟨v,hb,ho⟩:=h.cell;exact⟨h.ge,h.bytes,v,hb.put p (hb.ne k h1),ho.put k p _e h2⟩
theorem App.wf {w w':World}{B n:Nat}{v:Value}{xs:List Value}(h:App w w' B v)(o:Own w B 5 1 v n xs):Wf B w w':=
 ⟨h.below.mono (Nat.min_le_left _ _),fun i t cs hb _ h2=>hb.grown h.grown (fun e=>cA o.row hb (fun e=>h2 e.symm) e.symm)⟩
theorem qe (B g B2 m c:Nat)(A:Option Addr)(bs new:List Nat)(w:World)(h:Wr w B g bs)(hr:Reads w B2 1 A m (Bt new))(hn:∀d∈new,d<256)(hl:bs.length+new.length≤1000000000):
  Calls Tryz.prog 125 #[.pointer (some ⟨g,0,none⟩), .slice A m c] w fun e w'=>e= .returned (.pointer (some ⟨g,0,none⟩))∧Wf B w w'∧Wr w' B g (bs++new):=by
 obtain⟨v,k0,own⟩:=h.cell;have hB:=h.size;have hge:=h.ge;have hm:new.length=m:=by have:=hr.1;rw[jh] at this;omega
 refine Zs 17 Tryz.func125 ?_;refine ah ?_;refine Za ?_;refine bk 0 1 4 (aH (ah ?_));refine Zm ?_;refine Zv (aa.zP rfl rfl rfl Tryz.underlying74) ?_;refine aS 0 1 4 6 (Zt ?_);refine Cd.aM rfl rfl ?_;refine Zr ?_;refine Zm ?_;refine Zm ?_;refine Zv (aa.nilCheck rfl rfl) ?_;refine Zf 0 Tryz.underlying76 ?_;refine ZL Tryz.underlying64 k0 ?_;refine Zm ?_;refine Seq.append rfl rfl rfl Tryz.underlying64 (by kernel_rfl) bf rfl (by decide) (b:=1) (by kernel_rfl) own hr (by intro u hu;obtain⟨d,-,rfl⟩:=List.mem_map.1 hu;rfl) hB (by simp only[maxLen];omega) (by omega) rfl rfl rfl ?_;intro v1 w1 own1 ha;have k1:=k0.grown ha.grown (fun e=>cA own.row k0 (by decide) e.symm);have f1:=ha.wf own;clear k0;have k0:=k1;obtain⟨A1,c1,rfl,-⟩:=own1.reads;have e0:B≤g:=hge;have wf:Wf B w w1:=f1;refine Zv (aa.nilCheck rfl rfl) ?_;refine Zf 0 Tryz.underlying76 ?_;refine Zq k0 ?_;intro w1 pw1;replace k0:=pw1.an;refine aS 0 1 4 6 (az ?_);refine Zm ?_;refine Za ?_;refine aS 0 1 4 6 (Zt (Cd.ret ?_));have own2:=own1.put k1 pw1 hge;have f2:=wf.uz k1 pw1 hge hge (.inl rfl);refine aP ?_;refine⟨rfl,f2,hge,fun d hd=> ?_,_,k0,?_⟩
 ·rcases List.mem_append.1 hd with hd|hd
  ·exact h.bytes d hd
  ·exact hn d hd
 ·rw[gR,List.length_append,hm]
  exact own2
def kF:Nat→Nat→List Nat
 |0,n=>[n]
 |k+1,n=>if n<128 then [n] else(n%128+128)::kF k (n/128)
def de (n:Nat):List Nat:=kF 9 n
theorem sA {k n:Nat}(h:n<128):kF k n=[n]:=by
 cases k with
 |zero=>rfl
 |succ k=>unfold kF;rw[if_pos h]
theorem vP {k n:Nat}(h:¬n<128):kF (k+1) n=(n%128+128)::kF k (n/128):=by
 show(if n<128 then [n] else(n%128+128)::kF k (n/128))=_;rw[if_neg h]
theorem rD:∀k n,(kF k n).length≤k+1
 |0,n=>by simp[kF]
 |k+1,n=>by
  unfold kF;split
  ·simp
  ·have:=rD k (n/128)
   simp;omega
theorem bC (n:Nat):(de n).length≤10:=rD 9 n
theorem tK:∀k n,n<2*128^k→∀d∈kF k n,d<256
 |0,n,h,d,hd=>by simp[kF] at hd;subst hd;simp at h;omega
 |k+1,n,h,d,hd=>by
  unfold kF at hd;split at hd
  ·simp at hd;omega
  ·rcases List.mem_cons.1 hd with rfl|hd
   ·omega
   ·refine tK k (n/128) ?_ d hd
    rw[Nat.pow_succ] at h;rw[Nat.div_lt_iff_lt_mul (by omega)];omega
theorem gf {n:Nat}(h:n<18446744073709551616):∀d∈de n,d<256:=tK 9 n (by omega)
set_option maxRecDepth 100000 in
theorem Bv:∀x,x<256→x|||128=x%128+128:=by decide
theorem aa.Ce {P:Program}{E:Operand→Option Value}{o:Oper}{w:World}{x y:Operand}{T T':TypeId}{a b:Nat}(ho:o.op= .binOp .or T x y T')(hx:E x=some (.int .u8 (a:Int)))(hy:E y=some (.int .u8 (b:Int)))(ha:a<256)(hb:b<256):aa P E o w (.int .u8 ((a|||b:Nat):Int)) w:=by
 have e1:(BitVec.ofInt IntKind.u8.bits (a:Int)).toNat=a:=by simp[IntKind.bits];omega
 have e2:(BitVec.ofInt IntKind.u8.bits (b:Int)).toNat=b:=by simp[IntKind.bits];omega
 have hr:a|||b<256:=Nat.or_lt_two_pow (n:=8) ha hb;refine .bin ho hx hy rfl ?_;show(Op.intBits .or .u8 a b).run P w=_;simp only[Op.intBits,BitVec.toNat_or,e1,e2,nT (Int.natCast_nonneg _) (Int.ofNat_lt.2 hr)];rfl
theorem Bg (m:Nat):IntKind.u8.wrap (m:Int)=((m%256:Nat):Int):=by rw[IntKind.wrap_u8];omega
theorem nq (B g n:Nat)(bs:List Nat)(w:World)(h:Wr w B g bs)(hn:n<18446744073709551616)(hl:bs.length+10≤1000000000):
  Calls Tryz.prog 79 #[.pointer (some ⟨g,0,none⟩), .int .u64 (n:Int)] w fun e w'=>e= .returned (.pointer (some ⟨g,0,none⟩))∧Wf B w w'∧Wr w' B g (bs++de n):=by
 have wf:=Wf.refl B w;have hn9:n<2*128^9:=by omega
 refine Zs 20 Tryz.func79 ?_;refine ah ?_;refine Za ?_;refine bk 0 1 4 (aH (Cd.block ?_))
 refine Cd.loop (σ:=List Nat × Nat × Nat) (fun s=>[(0, .pointer (some ⟨g,0,none⟩)),(1, .int .u64 (s.2.2:Int))])
  (fun s wr=>s.1.length+s.2.1=9∧s.2.2<2*128^s.2.1∧s.1++kF s.2.1 s.2.2=de n∧Wf B w wr∧Wr wr B g (bs++s.1)) (fun s=>s.2.1) ([],9,n) ⟨rfl,hn9,List.nil_append _,wf,by rw[List.append_nil];exact h⟩ ⟨rfl,rfl,trivial⟩ ?_
 clear wf;rintro⟨done,k,m⟩ wr0 ⟨hd,hm,he,wf,wr⟩;simp only at hd hm he wr;show Cd _ _ _ _ [(0, .pointer (some ⟨g,0,none⟩)),(1, .int .u64 (m:Int))] _
 have hm64:m<18446744073709551616:=Nat.lt_of_lt_of_le hm (by
  have:(128:Nat)^k≤128^9:=Nat.pow_le_pow_right (by omega) (by omega);omega)
 refine Cd.seq (ah ?_);refine Zm ?_;refine oo ?_;refine bk 0 1 6 (Zt ?_);refine Cd.ao rfl (fun hc=> ?_) (fun hc=> ?_)
 ·obtain⟨k,rfl⟩:∃j,k=j+1:=⟨k-1,by
   rcases Nat.eq_zero_or_pos k with h0|h0
   ·subst h0;simp at hm;omega
   ·omega⟩
  refine Cd.skip (aH (Cd.block (Zr ?_)));refine Zm ?_;refine Zm ?_;refine Zv (aa.fe rfl rfl Tryz.underlying94 Tryz.underlying5 (Bg m)) ?_;refine Zv ((aa.Ce (b:=128) rfl rfl rfl (by omega) (by omega)).cast (by rw[Bv (m%256) (by omega),show m%256%128=m%128 by omega])) ?_;refine Seq.slice (vs:=[_]) (s:=1) rfl rfl rfl Tryz.underlying64 (by kernel_rfl) (bf) (by omega) (by omega) ⟨rfl,trivial⟩ rfl rfl rfl ?_;intro g13 w1 n13;have e13:=Nat.le_trans wf.below.size n13.ge;replace wf:=wf.step n13.below;replace wr:=wr.step n13.below;have k13:=n13.an;have hrd:Reads w1 w1.heap.size 1 (some ⟨g13,0,none⟩) 1 (Bt [m%128+128]):=Reads.an (size:=1) k13 1 rfl;refine Zc (Ze Tryz.func125) (qe B g _ 1 1 _ _ [m%128+128] _ wr hrd (by simp;omega) (by simp;omega)) ?_;clear wr;rintro e w2 ⟨rfl,fw2,wr⟩;refine⟨_,rfl,?_⟩;replace wf:=wf.wf fw2;refine bk 0 1 6 (ab.ag (et ?_));refine Zm ?_;refine Zv ((aa.Bm rfl rfl rfl (s:=7) rfl (by omega)).cast (v':= .int .u64 ((m/128:Nat):Int)) (by rw[show(2:Nat)^7=128 from rfl])) ?_;refine Za ?_;refine bk 0 1 6 ?_;rw[List.append_assoc] at wr;refine ab.round (done++[m%128+128],k,m/128) ⟨rfl,rfl,trivial⟩ ⟨by simp;omega,?_,?_,wf,wr⟩ (by simp)
  ·simp only
   rw[Nat.pow_succ] at hm;rw[Nat.div_lt_iff_lt_mul (by omega)];omega
  ·rw[←he,vP (by omega),List.append_assoc];rfl
 ·skip
  refine Cd.exit (ab.aD (ab.ay (ab.aA (az ?_))));refine Zm ?_;refine Zm ?_;refine Zv (aa.fe rfl rfl Tryz.underlying94 Tryz.underlying5 (nT (by omega) (by omega))) ?_;refine Seq.slice (vs:=[_]) (s:=1) rfl rfl rfl Tryz.underlying64 (by kernel_rfl) (bf) (by omega) (by omega) ⟨rfl,trivial⟩ rfl rfl rfl ?_;intro g18 w1 n18;have e18:=Nat.le_trans wf.below.size n18.ge;replace wf:=wf.step n18.below;replace wr:=wr.step n18.below;have k18:=n18.an;have hrd:Reads w1 w1.heap.size 1 (some ⟨g18,0,none⟩) 1 (Bt [m]):=Reads.an (size:=1) k18 1 rfl;refine Zc (Ze Tryz.func125) (qe B g _ 1 1 _ _ [m] _ wr hrd (by simp;omega) (by simp;omega)) ?_;clear wr;rintro e w2 ⟨rfl,fw2,wr⟩;refine⟨_,rfl,?_⟩;replace wf:=wf.wf fw2;refine Za ?_;refine aS 0 1 4 6 (Zt (Cd.ret ?_));refine aP ?_;rw[List.append_assoc,show done++[m]=de n by rw[←he,sA (by omega)]] at wr;exact⟨rfl,wf,wr⟩
theorem cf (B g n:Nat)(bs:List Nat)(w:World)(h:Wr w B g bs)(hn:n<9223372036854775808)(hl:bs.length+10≤1000000000):
  Calls Tryz.prog 30 #[.pointer (some ⟨g,0,none⟩), .int .i64 (n:Int)] w fun e w'=>e= .returned (.pointer (some ⟨g,0,none⟩))∧Wf B w w'∧Wr w' B g (bs++de n):=by
 have wf:=Wf.refl B w;have wr:=h;refine Zs 10 Tryz.func30 ?_;refine ah ?_;refine Za ?_;refine bk 0 1 4 (az ?_);refine Zm ?_;refine Zm ?_;refine Zv ((aa.max2 rfl rfl rfl).cast (v':= .int .i64 (n:Int)) (int_eq (by omega))) ?_;refine Zv (aa.yj (r:=n) rfl rfl Tryz.underlying3 Tryz.underlying94 (by omega)) ?_;refine Zc (Ze Tryz.func79) (nq B g n _ _ wr (by omega) hl) ?_;clear wr;rintro e w1 ⟨rfl,fw1,wr⟩;refine⟨_,rfl,?_⟩;replace wf:=wf.wf fw1;refine Za ?_;refine bk 0 1 4 (Zt (Cd.ret ?_));refine aP ?_;exact⟨rfl,wf,wr⟩
def j9 (n:Int):Nat:=if 0≤n then(2*n).toNat else(-2*n-1).toNat
theorem xE {n:Int}(h:bu n):j9 n<18446744073709551616:=by
 unfold j9 bu at *;split<;>omega
theorem xX {a:Nat}(h:a<18446744073709551616):a^^^18446744073709551615=18446744073709551615-a:=by
 have:=congrArg BitVec.toNat (BitVec.xor_allOnes (x:=BitVec.ofNat 64 a));rw[BitVec.toNat_xor,BitVec.toNat_not,BitVec.toNat_allOnes,BitVec.toNat_ofNat,Nat.mod_eq_of_lt (by omega)] at this;exact this
theorem nX (B g:Nat)(n:Int)(bs:List Nat)(w:World)(h:Wr w B g bs)(hn:bu n)(hl:bs.length+10≤1000000000):
  Calls Tryz.prog 32 #[.pointer (some ⟨g,0,none⟩), .int .i64 n] w fun e w'=>e= .returned (.pointer (some ⟨g,0,none⟩))∧Wf B w w'∧Wr w' B g (bs++de (j9 n)):=by
 have wf:=Wf.refl B w;have wr:=h;have hs:=xE hn;unfold bu at hn;obtain⟨a,ha⟩:∃a:Nat,n%18446744073709551616=(a:Int):=⟨(n%18446744073709551616).toNat,by omega⟩;obtain⟨a2,ha2⟩:∃a2:Nat,a2=a*2%18446744073709551616:=⟨_,rfl⟩;obtain⟨z,hz⟩:∃z:Int,z=if 0≤n then 0 else -1:=⟨_,rfl⟩;obtain⟨b,hb⟩:∃b:Nat,b=if 0≤n then 0 else 18446744073709551615:=⟨_,rfl⟩
 have hx:j9 n=a2^^^b:=by
  unfold j9
  by_cases h0:0≤n
  ·rw[hb,if_pos h0,if_pos h0,Nat.xor_zero];omega
  ·rw[hb,if_neg h0,if_neg h0,xX (by omega)];omega
 have hfd:n.fdiv 9223372036854775808=z:=by
  rw[Int.fdiv_eq_ediv_of_nonneg _ (by omega),hz];split<;>omega
 refine Zs 14 Tryz.func32 ?_;refine ah ?_;refine Za ?_;refine bk 0 1 4 (az ?_);refine Zm ?_;refine Zm ?_;refine Zv (aa.yj (r:=a) rfl rfl Tryz.underlying2 Tryz.underlying94 ha) ?_;refine Zv (aa.Bp (r:=(a2:Int)) rfl rfl rfl (by omega) (by rw[IntKind.wrap_u64];show((a:Int)*2)%_=_;omega)) ?_;refine Zm ?_;refine Zv (aa.Bh (r:=z) rfl rfl rfl (by omega) hfd) ?_;refine Zv (aa.yj (r:=b) rfl rfl Tryz.underlying2 Tryz.underlying94 (by rw[hz,hb];split<;>rfl)) ?_;refine Zv (aa.xl (a:=a2) (b:=b) rfl rfl rfl (by omega) (by rw[hb];split<;>omega) (.inr (.inr ⟨rfl,hx⟩))) ?_;refine Zc (Ze Tryz.func79) (nq B g (j9 n) _ _ wr hs hl) ?_;clear wr;rintro e w1 ⟨rfl,fw1,wr⟩;refine⟨_,rfl,?_⟩;replace wf:=wf.wf fw1;refine Za ?_;refine bk 0 1 4 (Zt (Cd.ret ?_));refine aP ?_;exact⟨rfl,wf,wr⟩
theorem zf (B g:Nat)(s bs:List Nat)(w:World)(h:Wr w B g bs)(hs:∀d∈s,d<256)(hl:bs.length+s.length≤1000000000):
  Calls Tryz.prog 80 #[.pointer (some ⟨g,0,none⟩), .string (strOf s)] w fun e w'=>e= .returned (.pointer (some ⟨g,0,none⟩))∧Wf B w w'∧Wr w' B g (bs++s):=by
 have wf:=Wf.refl B w;have wr:=h;refine Zs 9 Tryz.func80 ?_;refine ah ?_;refine Za ?_;refine bk 0 1 4 (az ?_);refine Zm ?_;refine Zm ?_;refine Seq.sX rfl rfl Tryz.underlying9 Tryz.underlying64 Tryz.underlying5 hs rfl rfl rfl ?_;intro g7 c7 w1 hc7 n7;replace wf:=wf.step n7.below;replace wr:=wr.step n7.below;have hrd:=n7.reads;refine Zc (Ze Tryz.func125) (qe B g _ _ c7 _ _ s _ wr hrd hs hl) ?_;clear wr;rintro e w1 ⟨rfl,fw1,wr⟩;refine⟨_,rfl,?_⟩;replace wf:=wf.wf fw1;refine Za ?_;refine bk 0 1 4 (Zt (Cd.ret ?_));refine aP ?_;exact⟨rfl,wf,wr⟩
theorem dc (B g:Nat)(s bs:List Nat)(w:World)(h:Wr w B g bs)(hs:∀d∈s,d<256)(hl:bs.length+10+s.length≤1000000000):
  Calls Tryz.prog 31 #[.pointer (some ⟨g,0,none⟩), .string (strOf s)] w fun e w'=>e= .returned (.pointer (some ⟨g,0,none⟩))∧Wf B w w'∧Wr w' B g (bs++(de s.length++s)):=by
 have wf:=Wf.refl B w;have wr:=h;have hg:=bC s.length;refine Zs 11 Tryz.func31 ?_;refine ah ?_;refine Za ?_;refine bk 0 1 4 (az ?_);refine Zm ?_;refine Zm ?_;refine Zv (aa.ed rfl rfl Tryz.underlying9) ?_;refine Zc (Ze Tryz.func30) (cf B g s.length _ _ wr (by omega) (by omega)) ?_;clear wr;rintro e w1 ⟨rfl,fw1,wr⟩;refine⟨_,rfl,?_⟩;replace wf:=wf.wf fw1;refine Zm ?_;refine Zc (Ze Tryz.func80) (zf B g s _ _ wr hs (by rw[List.length_append];omega)) ?_;clear wr;rintro e w2 ⟨rfl,fw2,wr⟩;refine⟨_,rfl,?_⟩;replace wf:=wf.wf fw2;rw[List.append_assoc] at wr;refine Za ?_;refine bk 0 1 4 (Zt (Cd.ret ?_));refine aP ?_;exact⟨rfl,wf,wr⟩
theorem jS (B g:Nat)(bs:List Nat)(w:World)(h:Wr w B g bs):
  Calls Tryz.prog 33 #[.pointer (some ⟨g,0,none⟩)] w fun e w'=>e= .returned (.string (strOf bs))∧Grow w w':=by
 have bel:=Below.refl w.heap.size w;obtain⟨v,k0,own⟩:=h.cell;obtain⟨A,c,rfl,hr⟩:=own.reads;refine Zs 10 Tryz.func33 ?_;refine ah ?_;refine Za ?_;refine cZ 0 2 (aH (ah ?_));refine Zm ?_;refine Zv (aa.zZ rfl rfl rfl Tryz.underlying74) ?_;refine bk 0 2 4 (Zt ?_);refine Cd.aI rfl rfl ?_;refine Cd.skip (az ?_);refine Zm ?_;refine Zv (aa.nilCheck rfl rfl) ?_;refine Zf 0 Tryz.underlying76 ?_;refine ZL Tryz.underlying64 k0 ?_;refine Zv (aa.tJ rfl rfl Tryz.underlying64 Tryz.underlying5 Tryz.underlying9 hr h.bytes) ?_;refine Za ?_;refine bk 0 2 4 (Zt (Cd.ret ?_));refine aP ?_;exact⟨rfl,bel⟩
def eW {α:Type}(d:α):List α→Nat→α
 | [],_=>d
 |x::_,0=>x
 |_::r,k+1=>eW d r k
def cq (s:List Nat):List Nat:=de s.length++s
theorem jC (w:World):(Instr.build 76 #[]).run Tryz.prog w= .ok (.agg #[.slice none 0 0]) w:=by kernel_rfl
def DJ (l:List Nat):List Value:=l.map fun(z:Nat)=> .int .i64 (z:Int)
def DS (l:List (List Nat)):List Value:=l.map fun s=> .string (strOf s)
theorem lx {α:Type}(f:α→List Nat){l:List α}{k:Nat}{x:α}(h:l[k]? =some x):(l.take (k+1)).flatMap f=(l.take k).flatMap f++f x:=by
 rw[List.take_add_one,h,List.flatMap_append];simp
theorem fL {α:Type}(f:α→List Nat)(m:Nat):∀ {l:List α},(∀x∈l,(f x).length≤m)→(l.flatMap f).length≤l.length*m
 | [],_=>by simp
 |x::r,h=>by
  have h1:=h x List.mem_cons_self;have h2:=fL f m (l:=r) (fun y hy=>h y (List.mem_cons_of_mem _ hy));rw[List.flatMap_cons,List.length_append,List.length_cons,Nat.add_mul];omega
theorem eP (s:List Nat):(cq s).length≤10+s.length:=by unfold cq;rw[List.length_append];have:=bC s.length;omega
theorem At (B g n:Nat)(bs:List Nat)(w:World)(h:Wr w B g bs)(hn:n<9223372036854775808)(hl:bs.length+10≤1000000000):
  Calls Tryz.prog 60 #[.pointer (some ⟨g,0,none⟩), .int .i64 (n:Int)] w fun e w'=>e= .returned (.tuple #[])∧Wf B w w'∧Wr w' B g (bs++de n):=by
 have wf:=Wf.refl B w;have wr:=h;refine Zs 7 Tryz.func60 ?_;refine Zr ?_;refine Zm ?_;refine Zm ?_;refine Zc (Ze Tryz.func30) (cf B g n _ _ wr hn hl) ?_;clear wr;rintro e w1 ⟨rfl,fw1,wr⟩;refine⟨_,rfl,?_⟩;replace wf:=wf.wf fw1;refine cZ 0 1 ?_;refine ab.du rfl (.inr rfl) ?_;exact⟨rfl,wf,wr⟩
theorem zS (B g:Nat)(s bs:List Nat)(w:World)(h:Wr w B g bs)(hs:∀d∈s,d<256)(hl:bs.length+10+s.length≤1000000000):
  Calls Tryz.prog 98 #[.pointer (some ⟨g,0,none⟩), .string (strOf s)] w fun e w'=>e= .returned (.tuple #[])∧Wf B w w'∧Wr w' B g (bs++cq s):=by
 have wf:=Wf.refl B w;have wr:=h;refine Zs 7 Tryz.func98 ?_;refine Zr ?_;refine Zm ?_;refine Zm ?_;refine Zc (Ze Tryz.func31) (dc B g s _ _ wr hs hl) ?_;clear wr;rintro e w1 ⟨rfl,fw1,wr⟩;refine⟨_,rfl,?_⟩;replace wf:=wf.wf fw1;refine cZ 0 1 ?_;refine ab.du rfl (.inr rfl) ?_;exact⟨rfl,wf,wr⟩
theorem Bb:∀args w,(callFunc 60 args).run Tryz.prog w= .ok (.enter 60 args) w:=fun args w=>aF Tryz.func60 (by kernel_rfl) rfl args w
theorem Bq:∀args w,(callFunc 98 args).run Tryz.prog w= .ok (.enter 98 args) w:=fun args w=>aF Tryz.func98 (by kernel_rfl) rfl args w
theorem xO (B g B2 cap:Nat)(A:Option Addr)(l:List Nat)(bs:List Nat)(w:World)(h:Wr w B g bs)(hr:Reads w B2 1 A l.length (DJ l))(hB:B2≤B)(hn:∀n∈l,n<9223372036854775808)(hlen:l.length≤1000)(hl:bs.length≤900000000):
  Calls Tryz.prog 59 #[.pointer (some ⟨g,0,none⟩), .slice A l.length cap, .func (.func 60) #[] #[]] w fun e w'=>e= .returned (.tuple #[])∧Wf B w w'∧Wr w' B g (bs++(de l.length++l.flatMap de)):=by
 have wf:=Wf.refl B w;have wr:=h;have hBw:=h.size;have hg:=bC l.length
 generalize hn0:l.length=n at *
 refine Zs 23 Tryz.func59 ?_;refine ah ?_;refine Zm ?_;refine Zm ?_;refine Zv (aa.len rfl rfl Tryz.underlying96) ?_;refine Zc (Ze Tryz.func30) (cf B g n _ _ wr (by omega) (by omega)) ?_;clear wr;rintro e w1 ⟨rfl,fw1,wr⟩;refine⟨_,rfl,?_⟩;replace wf:=wf.wf fw1;refine bk 0 1 2 (az ?_);refine Zm ?_;refine Zv (aa.len rfl rfl Tryz.underlying96) ?_;refine Zm ?_;refine aV 0 1 2 12 13 14 (Zt (Cd.block ?_))
 refine Cd.loop (σ:=Nat) (fun k=>[(0, .pointer (some ⟨g,0,none⟩)),(2, .func (.func 60) #[] #[]),(12, .slice A n cap),(13, .int .i64 (n:Int)),(14, .int .i64 (k:Int))])
  (fun k wr=>k≤n∧Wf B w wr∧Wr wr B g (bs++de n++(l.take k).flatMap de)) (fun k=>n-k) 0 ⟨Nat.zero_le _,wf,by simpa using wr⟩ ⟨rfl,rfl,rfl,rfl,rfl,trivial⟩ ?_
 clear wf wr;rintro k wr0 ⟨hk,wf,wr⟩;have hlt:=fL de 10 (l:=l.take k) (fun x _=>bC x);rw[List.length_take] at hlt;refine ah ?_;refine eU ?_;refine aV 0 2 12 13 14 15 (aH ?_);refine Cd.ao rfl (fun hc=> ?_) (fun hc=> ?_)
 ·obtain⟨x,hx⟩:∃x,l[k]? =some x:=⟨_,List.getElem?_eq_getElem (show k<l.length by omega)⟩
  obtain⟨ad,rfl,hbl,hc⟩:=hr.2 (by omega);have hc:=((wf.to hBw).cell (p:=ad.add k) (by rw[ai];omega)).trans (hc k (.int .i64 (x:Int)) (by simp[DJ,hx]));refine Cd.skip (aH (Cd.block (ah ?_)));refine Zv (aa.gA rfl rfl rfl Tryz.underlying96 (by kernel_rfl) (j:=k) rfl (by omega)) ?_;refine Zv (aa.jN rfl rfl Tryz.underlying3 rfl hc) ?_;refine Za ?_;refine ba 0 2 7 12 13 14 15 (et ?_);refine Zm ?_;refine Zm ?_;refine Zm ?_;refine Seq.call (Enters.value (first:=[]) (cap:=[]) rfl rfl rfl Bb) rfl rfl rfl (At B g x _ _ wr (hn x (List.mem_of_getElem? hx)) (by simp only[List.length_append];omega)) ?_;clear wr;rintro e w5 ⟨rfl,f5,wr⟩;refine⟨_,rfl,?_⟩;replace wf:=wf.wf f5;rw[List.append_assoc,←lx de hx] at wr;refine ba 0 2 7 12 13 14 15 (ab.ag (et ?_));refine dq ?_;refine Zm ?_;refine ba 0 2 7 12 13 14 15 ?_;exact ab.round (k+1) ⟨rfl,rfl,rfl,rfl,rfl,trivial⟩ ⟨by omega,wf,wr⟩ (by omega)
 ·obtain rfl:k=n:=by omega
  rw[List.take_of_length_le (by omega),List.append_assoc] at wr;refine Cd.exit (ab.aD (ab.ay (ab.aA ?_)));refine ab.du rfl (.inr rfl) ?_;exact⟨rfl,wf,wr⟩
theorem xa (B g B2 cap:Nat)(A:Option Addr)(l:List (List Nat))(bs:List Nat)(w:World)(h:Wr w B g bs)(hr:Reads w B2 1 A l.length (DS l))(hB:B2≤B)(hn:∀s∈l,(∀d∈s,d<256)∧s.length≤4000)(hlen:l.length≤20000)(hl:bs.length≤900000000):
  Calls Tryz.prog 97 #[.pointer (some ⟨g,0,none⟩), .slice A l.length cap, .func (.func 98) #[] #[]] w fun e w'=>e= .returned (.tuple #[])∧Wf B w w'∧Wr w' B g (bs++(de l.length++l.flatMap cq)):=by
 have wf:=Wf.refl B w;have wr:=h;have hBw:=h.size;have hg:=bC l.length
 generalize hn0:l.length=n at *
 refine Zs 23 Tryz.func97 ?_;refine ah ?_;refine Zm ?_;refine Zm ?_;refine Zv (aa.len rfl rfl Tryz.underlying66) ?_;refine Zc (Ze Tryz.func30) (cf B g n _ _ wr (by omega) (by omega)) ?_;clear wr;rintro e w1 ⟨rfl,fw1,wr⟩;refine⟨_,rfl,?_⟩;replace wf:=wf.wf fw1;refine bk 0 1 2 (az ?_);refine Zm ?_;refine Zv (aa.len rfl rfl Tryz.underlying66) ?_;refine Zm ?_;refine aV 0 1 2 12 13 14 (Zt (Cd.block ?_))
 refine Cd.loop (σ:=Nat) (fun k=>[(0, .pointer (some ⟨g,0,none⟩)),(2, .func (.func 98) #[] #[]),(12, .slice A n cap),(13, .int .i64 (n:Int)),(14, .int .i64 (k:Int))])
  (fun k wr=>k≤n∧Wf B w wr∧Wr wr B g (bs++de n++(l.take k).flatMap cq)) (fun k=>n-k) 0 ⟨Nat.zero_le _,wf,by simpa using wr⟩ ⟨rfl,rfl,rfl,rfl,rfl,trivial⟩ ?_
 clear wf wr;rintro k wr0 ⟨hk,wf,wr⟩;have hlt:=fL cq 4010 (l:=l.take k) (fun x hx=>by have:=eP x;have:=(hn x (List.mem_of_mem_take hx)).2;omega);rw[List.length_take] at hlt;refine ah ?_;refine eU ?_;refine aV 0 2 12 13 14 15 (aH ?_);refine Cd.ao rfl (fun hc=> ?_) (fun hc=> ?_)
 ·obtain⟨x,hx⟩:∃x,l[k]? =some x:=⟨_,List.getElem?_eq_getElem (show k<l.length by omega)⟩
  obtain⟨ad,rfl,hbl,hc⟩:=hr.2 (by omega);have hc:=((wf.to hBw).cell (p:=ad.add k) (by rw[ai];omega)).trans (hc k (.string (strOf x)) (by simp[DS,hx]));obtain⟨hx1,hx2⟩:=hn x (List.mem_of_getElem? hx);refine Cd.skip (aH (Cd.block (ah ?_)));refine Zv (aa.gA rfl rfl rfl Tryz.underlying66 (by kernel_rfl) (j:=k) rfl (by omega)) ?_;refine Zv (aa.jN rfl rfl Tryz.underlying9 rfl hc) ?_;refine Za ?_;refine ba 0 2 7 12 13 14 15 (et ?_);refine Zm ?_;refine Zm ?_;refine Zm ?_;refine Seq.call (Enters.value (first:=[]) (cap:=[]) rfl rfl rfl Bq) rfl rfl rfl (zS B g x _ _ wr hx1 (by simp only[List.length_append];omega)) ?_;clear wr;rintro e w5 ⟨rfl,f5,wr⟩;refine⟨_,rfl,?_⟩;replace wf:=wf.wf f5;rw[List.append_assoc,←lx cq hx] at wr;refine ba 0 2 7 12 13 14 15 (ab.ag (et ?_));refine dq ?_;refine Zm ?_;refine ba 0 2 7 12 13 14 15 ?_;exact ab.round (k+1) ⟨rfl,rfl,rfl,rfl,rfl,trivial⟩ ⟨by omega,wf,wr⟩ (by omega)
 ·obtain rfl:k=n:=by omega
  rw[List.take_of_length_le (by omega),List.append_assoc] at wr;refine Cd.exit (ab.aD (ab.ay (ab.aA ?_)));refine ab.du rfl (.inr rfl) ?_;exact⟨rfl,wf,wr⟩
theorem qG (B g B2 cap:Nat)(A:Option Addr)(l:List (List Nat))(bs:List Nat)(w:World)(h:Wr w B g bs)(hr:Reads w B2 1 A l.length (DS l))(hB:B2≤B)(hn:∀s∈l,(∀d∈s,d<256)∧s.length≤4000)(hlen:l.length≤20000)(hl:bs.length≤900000000):
  Calls Tryz.prog 56 #[.pointer (some ⟨g,0,none⟩), .slice A l.length cap] w fun e w'=>e= .returned (.tuple #[])∧Wf B w w'∧Wr w' B g (bs++(de l.length++l.flatMap cq)):=by
 have wf:=Wf.refl B w;have wr:=h;refine Zs 7 Tryz.func56 ?_;refine Zr ?_;refine Zm ?_;refine Zm ?_;refine Zc (Ze Tryz.func97) (xa B g B2 cap A l _ _ wr hr hB hn hlen hl) ?_;clear wr;rintro e w1 ⟨rfl,fw1,wr⟩;refine⟨_,rfl,?_⟩;replace wf:=wf.wf fw1;refine cZ 0 1 ?_;refine ab.du rfl (.inr rfl) ?_;exact⟨rfl,wf,wr⟩
structure Pk where
 bc:Int
 bj:Bool
 places:List Nat
 text:List Nat
def Pk.bytes (q:Pk):List Nat:=de (j9 q.bc)++de (if q.bj then 1 else 0)++(de q.places.length++q.places.flatMap de)++cq q.text
structure Pk.ok (q:Pk):Prop where
 bc:bu q.bc
 places:∀n∈q.places,n<9223372036854775808
 dK:q.places.length≤1000
 text:∀d∈q.text,d<256
 oe:q.text.length≤4000
theorem Pk.len {q:Pk}(h:q.ok):q.bytes.length≤15000:=by
 have h1:=bC (j9 q.bc);have h2:=bC (if q.bj then 1 else 0);have h3:=bC q.places.length;have h4:=eP q.text;have h5:=fL de 10 (l:=q.places) (fun x _=>bC x);have h6:=h.dK;have h7:=h.oe;unfold Pk.bytes;simp only[List.length_append];omega
theorem Ac (B g B2 c:Nat)(q:Pk)(u2 u3 u4 u5 u6:Value)(A:Option Addr)(bs:List Nat)(w:World)(hq:q.ok)(h:Wr w B g bs)(hr:Reads w B2 1 A q.places.length (DJ q.places))(hB:B2≤B)(hl:bs.length≤800000000):
  Calls Tryz.prog 58 #[.pointer (some ⟨g,0,none⟩), .agg #[.int .i64 q.bc, .bool q.bj,u2,u3,u4,u5,u6, .string (strOf q.text), .slice A q.places.length c]] w fun e w'=>e= .returned (.tuple #[])∧Wf B w w'∧Wr w' B g (bs++q.bytes):=by
 have wf:=Wf.refl B w;have wr:=h;have hBw:=h.size;have h1:=bC (j9 q.bc);have h2:=bC (if q.bj then 1 else 0);have h3:=bC q.places.length;have h4:=eP q.text;have h5:=fL de 10 (l:=q.places) (fun x _=>bC x);have h6:=hq.dK;have h7:=hq.oe;obtain⟨tt,htt⟩:∃tt,tt=if q.bj then 1 else 0:=⟨_,rfl⟩;have htt1:tt≤1:=by rw[htt];split<;>omega
 have hqb:q.bytes=de (j9 q.bc)++de tt++(de q.places.length++q.places.flatMap de)++cq q.text:=by unfold Pk.bytes;rw[htt]
 rw[←htt] at h2;rw[hqb];refine Zs 23 Tryz.func58 ?_;refine ah ?_;refine Seq.box rfl rfl rfl rfl rfl ?_;intro g3 w1 n3;have e3:=Nat.le_trans wf.below.size n3.ge;replace wf:=wf.step n3.below;replace wr:=wr.step n3.below;have k3:=n3.an;refine bk 0 1 3 (az ?_);refine Za ?_;refine aS 0 1 3 4 (Zt ?_);refine Cd.kH (σ:=Unit) (fun _=>[(0, .pointer (some ⟨g,0,none⟩)),(3, .pointer (some ⟨g3,0,none⟩)),(4, .int .i64 (tt:Int))]) (fun _ wr=>Wf B w wr∧Wr wr B g bs∧aE wr g3 118 #[.int .i64 q.bc, .bool q.bj,u2,u3,u4,u5,u6, .string (strOf q.text), .slice A q.places.length c]) ?_ ?_
 ·skip
  refine ah ?_;refine Zf 0 Tryz.underlying118 ?_;refine Zv (aa.eX 1 rfl rfl Tryz.underlying108 rfl (by kernel_rfl)) ?_;refine ZL Tryz.underlying4 k3 ?_;refine aL 0 1 3 4 7 (Zt ?_);refine Cd.cond rfl (fun h=> ?_) (fun h=> ?_)
  ·rw[h] at htt
   subst htt;refine Zr ?_;refine Za ?_;refine aL 0 1 3 4 7 ?_;exact ab.join () ⟨rfl,rfl,rfl,trivial⟩ ⟨wf,wr,k3⟩
  ·rw[h] at htt
   subst htt;refine Cd.skip ?_;exact ab.join () ⟨rfl,rfl,rfl,trivial⟩ ⟨wf,wr,k3⟩
 clear wf wr k3;rintro u wj ⟨wf,wr,k3⟩;refine ah ?_;refine Zm ?_;refine Zf 0 Tryz.underlying118 ?_;refine Zv (aa.eX 0 rfl rfl Tryz.underlying108 rfl (by kernel_rfl)) ?_;refine ZL Tryz.underlying2 k3 ?_;refine Zc (Ze Tryz.func32) (nX B g q.bc _ _ wr hq.bc (by omega)) ?_;clear wr;rintro e w2 ⟨rfl,fw2,wr⟩;refine⟨_,rfl,?_⟩;replace wf:=wf.wf fw2;replace k3:=k3.wf fw2;refine Zm ?_;refine Zc (Ze Tryz.func30) (cf B g tt _ _ wr (by omega) (by simp only[List.length_append];omega)) ?_;clear wr;rintro e w3 ⟨rfl,fw3,wr⟩;refine⟨_,rfl,?_⟩;replace wf:=wf.wf fw3;replace k3:=k3.wf fw3;refine bk 0 3 4 (az ?_);refine Zm ?_;refine Zf 8 Tryz.underlying118 ?_;refine ZL Tryz.underlying96 k3 ?_;refine Zc (Ze Tryz.func59) (xO B g B2 c A q.places _ _ wr (hr.wf wf hB (Nat.le_trans hB hBw)) hB hq.places h6 (by simp only[List.length_append];omega)) ?_;clear wr;rintro e w4 ⟨rfl,fw4,wr⟩;refine⟨_,rfl,?_⟩;replace wf:=wf.wf fw4;replace k3:=k3.wf fw4;refine bk 0 3 4 (et ?_);refine Zm ?_;refine Zf 7 Tryz.underlying118 ?_;refine ZL Tryz.underlying9 k3 ?_;refine Zc (Ze Tryz.func31) (dc B g q.text _ _ wr hq.text (by simp only[List.length_append];omega)) ?_;clear wr;rintro e w5 ⟨rfl,fw5,wr⟩;refine⟨_,rfl,?_⟩;replace wf:=wf.wf fw5;replace k3:=k3.wf fw5;refine bk 0 3 4 ?_;refine ab.du rfl (.inr rfl) ?_;exact⟨rfl,wf,by simpa only[cq,List.append_assoc] using wr⟩
theorem Br:∀args w,(callFunc 58 args).run Tryz.prog w= .ok (.enter 58 args) w:=fun args w=>aF Tryz.func58 (by kernel_rfl) rfl args w
theorem dh:br Tryz.prog 118=some (some (.agg #[.int .i64 0, .bool false, .slice none 0 0, .int .i64 0, .string {data:= #[]}, .slice none 0 0, .slice none 0 0, .string {data:= #[]}, .slice none 0 0])):=by kernel_rfl
def wg (w:World)(B:Nat)(l:List Pk)(A:Option Addr):Prop:=∀i x,l[i]? =some x→∃ad u2 u3 u4 u5 u6 A' c,A=some ad∧ad.block<B∧Reads w B 1 A' x.places.length (DJ x.places)∧(u2.oneCell'=true∧u3.oneCell'=true∧u4.oneCell'=true∧u5.oneCell'=true∧u6.oneCell'=true)∧∀(j:Nat) (u:Value),([.int .i64 x.bc, .bool x.bj,u2,u3,u4,u5,u6, .string (strOf x.text), .slice A' x.places.length c]:List Value)[j]? =some u→w.cell? ((ad.add (i*9)).add j)=some u
theorem xM (B g B2 cap:Nat)(A:Option Addr)(l:List Pk)(bs:List Nat)(w:World)(h:Wr w B g bs)(hr:wg w B2 l A)(hB:B2≤B)(hn:∀q∈l,q.ok)(hlen:l.length≤1000)(hl:bs.length≤700000000):
  Calls Tryz.prog 57 #[.pointer (some ⟨g,0,none⟩), .slice A l.length cap, .func (.func 58) #[] #[]] w fun e w'=>e= .returned (.tuple #[])∧Wf B w w'∧Wr w' B g (bs++(de l.length++l.flatMap Pk.bytes)):=by
 have wf:=Wf.refl B w;have wr:=h;have hBw:=h.size;have hg:=bC l.length
 generalize hn0:l.length=n at *
 refine Zs 23 Tryz.func57 ?_;refine ah ?_;refine Zm ?_;refine Zm ?_;refine Zv (aa.len rfl rfl Tryz.underlying112) ?_;refine Zc (Ze Tryz.func30) (cf B g n _ _ wr (by omega) (by omega)) ?_;clear wr;rintro e w1 ⟨rfl,fw1,wr⟩;refine⟨_,rfl,?_⟩;replace wf:=wf.wf fw1;refine bk 0 1 2 (az ?_);refine Zm ?_;refine Zv (aa.len rfl rfl Tryz.underlying112) ?_;refine Zm ?_;refine aV 0 1 2 12 13 14 (Zt (Cd.block ?_))
 refine Cd.loop (σ:=Nat) (fun k=>[(0, .pointer (some ⟨g,0,none⟩)),(2, .func (.func 58) #[] #[]),(12, .slice A n cap),(13, .int .i64 (n:Int)),(14, .int .i64 (k:Int))])
  (fun k wr=>k≤n∧Wf B w wr∧Wr wr B g (bs++de n++(l.take k).flatMap Pk.bytes)) (fun k=>n-k) 0 ⟨Nat.zero_le _,wf,by simpa using wr⟩ ⟨rfl,rfl,rfl,rfl,rfl,trivial⟩ ?_
 clear wf wr;rintro k wr0 ⟨hk,wf,wr⟩;have hlt:=fL Pk.bytes 15000 (l:=l.take k) (fun x hx=>Pk.len (hn x (List.mem_of_mem_take hx)));rw[List.length_take] at hlt;refine ah ?_;refine eU ?_;refine aV 0 2 12 13 14 15 (aH ?_);refine Cd.ao rfl (fun hc=> ?_) (fun hc=> ?_)
 ·obtain⟨x,hx⟩:∃x,l[k]? =some x:=⟨_,List.getElem?_eq_getElem (show k<l.length by omega)⟩
  obtain⟨ad,u2,u3,u4,u5,u6,A',c',rfl,hbl,hrp,⟨o2,o3,o4,o5,o6⟩,hc⟩:=hr k x hx;have hc:=fun j u hj=>((wf.to hBw).cell (p:=(ad.add (k*9)).add j) (by rw[ai,ai];omega)).trans (hc j u hj);have hsz:=wf.below.size;refine Cd.skip (aH (Cd.block (ah ?_)));refine Zv (aa.aU rfl rfl rfl Tryz.underlying112 (s:=9) (by kernel_rfl) (j:=k) rfl (by omega)) ?_;refine Zv (aa.b7 (ps:=[.int .i64 x.bc, .bool x.bj,u2,u3,u4,u5,u6, .string (strOf x.text), .slice A' x.places.length c']) rfl rfl Tryz.underlying118 rfl (m:=9) (by kernel_rfl) rfl hc) ?_;refine Zl dh ?_;intro g7 w2 n7;have e7:=Nat.le_trans wf.below.size n7.ge;replace wf:=wf.step n7.below;replace wr:=wr.step n7.below;have k7:=n7.an;refine Zo 9 k7 ?_;intro w3 pw3;replace wf:=wf.put k7 pw3 e7;replace wr:=wr.put k7 pw3 e7;replace k7:=pw3.an;refine ba 0 2 7 12 13 14 15 (et ?_);refine Zm ?_;refine Zm ?_;refine ZW 9 Tryz.underlying118 k7 ?_;refine Seq.call (Enters.value (first:=[]) (cap:=[]) rfl rfl rfl Br) rfl rfl rfl (Ac B g B2 c' x u2 u3 u4 u5 u6 A' _ _ (hn x (List.mem_of_getElem? hx)) wr (hrp.wf wf hB (Nat.le_trans hB hBw)) hB (by simp only[List.length_append];omega)) ?_;clear wr;rintro e w5 ⟨rfl,f5,wr⟩;refine⟨_,rfl,?_⟩;replace wf:=wf.wf f5;rw[List.append_assoc,←lx Pk.bytes hx] at wr;refine ba 0 2 7 12 13 14 15 (ab.ag (et ?_));refine dq ?_;refine Zm ?_;refine ba 0 2 7 12 13 14 15 ?_;exact ab.round (k+1) ⟨rfl,rfl,rfl,rfl,rfl,trivial⟩ ⟨by omega,wf,wr⟩ (by omega)
 ·obtain rfl:k=n:=by omega
  rw[List.take_of_length_le (by omega),List.append_assoc] at wr;refine Cd.exit (ab.aD (ab.ay (ab.aA ?_)));refine ab.du rfl (.inr rfl) ?_;exact⟨rfl,wf,wr⟩
structure Pf (B:Nat)(w w':World):Prop where
 below:Below (min B w.heap.size) w w'
 bL:∀k t cs,aE w k t cs→t≠111→t≠9→aE w' k t cs
section
variable {B:Nat} {w w' w'':World}
theorem Pf.refl (B:Nat)(w:World):Pf B w w:=⟨Below.refl _ _,fun _ _ _ h _ _=>h⟩
theorem Pf.trans (h:Pf B w w')(k:Pf B w' w''):Pf B w w'':=⟨h.below.trans (k.below.mono (by have:=h.below.size;omega)),fun i t cs hb h1 h2=>k.bL i t cs (h.bL i t cs hb h1 h2) h1 h2⟩
theorem Pf.grow (h:Below w.heap.size w w'):Pf B w w':=⟨h.mono (Nat.min_le_right _ _),fun _ _ _ hb _ _=>hb.step h⟩
theorem Pf.step (h:Pf B w w')(k:Below w'.heap.size w' w''):Pf B w w'':=h.trans (Pf.grow k)
theorem Pf.to (h:Pf B w w')(hB:B≤w.heap.size):Below B w w':=by have:=h.below;rwa [Nat.min_eq_left hB] at this
theorem Pf.uz {g:Nat}{T:TypeId}{cur cs:Array Value}(h:Pf B w w')(k:aE w' g T cur)(p:gI w' w'' g T cs)(hB:B≤g)(hT:T=111∨T=9):Pf B w w'':=
 h.trans ⟨(p.below hB k.lt).mono (Nat.min_le_left _ _),fun i t cs hb h1 h2=>hb.put p (hb.ne k (by rcases hT with rfl|rfl<;>assumption))⟩
theorem Pf.put {g:Nat}{T:TypeId}{cur cs:Array Value}(h:Pf B w w')(k:aE w' g T cur)(p:gI w' w'' g T cs)(e:w.heap.size≤g):Pf B w w'':=
 ⟨h.below.trans (p.below (by omega) k.lt),fun i t cs hb h1 h2=>(h.bL i t cs hb h1 h2).put p (by have:=hb.lt;omega)⟩
end
theorem aE.pf {B:Nat}{w w':World}{k:Nat}{t:TypeId}{cs:Array Value}(h:aE w k t cs)(f:Pf B w w')(h1:t≠111:=by decide)(h2:t≠9:=by decide):aE w' k t cs:=f.bL k t cs h h1 h2
theorem Own.pf {B B' size n:Nat}{w w':World}{e:TypeId}{v:Value}{xs:List Value}(h:Own w B' e size v n xs)(f:Pf B w w')(h1:e≠111:=by decide)(h2:e≠9:=by decide):Own w' B' e size v n xs:=by
 obtain⟨hl,h|⟨g,cap,cur,rfl,hg,hc,h3⟩⟩:=h.row
 ·exact⟨hl, .inl h⟩
 ·exact⟨hl, .inr ⟨g,cap,cur,rfl,hg,f.bL g e cur hc h1 h2,h3⟩⟩
theorem App.pf {w w':World}{B n:Nat}{v:Value}{xs:List Value}(h:App w w' B v)(o:Own w B 9 1 v n xs):Pf B w w':=
 ⟨h.below.mono (Nat.min_le_left _ _),fun i t cs hb _ h2=>hb.grown h.grown (fun e=>cA o.row hb (fun e=>h2 e.symm) e.symm)⟩
structure Pl (w:World)(B g:Nat)(L:List (List Nat)):Prop where
 ge:B≤g
 zJ:∀t∈L,∀d∈t,d<256
 cell:∃v,aE w g 111 #[v]∧Own w B 9 1 v L.length (iK L)
theorem Pl.size {w:World}{B g:Nat}{L:List (List Nat)}(h:Pl w B g L):B≤w.heap.size:=by
 obtain⟨v,hb,-⟩:=h.cell;have:=hb.lt;have:=h.ge;omega
theorem Pl.step {w w':World}{B g:Nat}{L:List (List Nat)}(h:Pl w B g L)(k:Below w.heap.size w w'):Pl w' B g L:=by
 obtain⟨v,hb,ho⟩:=h.cell;exact⟨h.ge,h.zJ,v,hb.step k,ho.step k⟩
theorem Pl.put {w w':World}{B B' g g':Nat}{L:List (List Nat)}{T:TypeId}{cur cs:Array Value}(h:Pl w B g L)(k:aE w g' T cur)(p:gI w w' g' T cs)(_e:B'≤g')(h1:111≠T:=by decide)(h2:9≠T:=by decide):Pl w' B g L:=by
 obtain⟨v,hb,ho⟩:=h.cell;exact⟨h.ge,h.zJ,v,hb.put p (hb.ne k h1),ho.put k p _e h2⟩
def ju (L:List (List Nat))(s:List Nat):List (List Nat):=if s∈L then L else L++[s]
theorem qb (L:List (List Nat))(s:List Nat)(A:Option Addr)(c B:Nat)(w:World)(hr:Reads w B 1 A L.length (iK L))(hB:B≤w.heap.size)(hl:L.length≤100000)(hL:∀t∈L,∀x∈t,x<256)(hs:∀x∈s,x<256):
  Calls Tryz.prog 139 #[.slice A L.length c, .string (strOf s)] w fun e w'=>e= .returned (.int .i64 (jU L s))∧Grow w w':=by
 have bel:=Below.refl w.heap.size w;refine Zs 19 Tryz.func139 ?_;refine ah ?_;refine Za ?_;refine bk 0 1 4 (aH (ah ?_));refine Zm ?_;refine Zv (aa.len rfl rfl Tryz.underlying66) ?_;refine Zm ?_;refine aL 0 1 4 7 8 (Zt (Cd.block ?_));refine Cd.loop (σ:=Nat) (fun k=>[(0, .slice A L.length c),(1, .string (strOf s)),(7, .int .i64 (L.length:Int)),(8, .int .i64 (k:Int))]) (fun k wr=>k≤L.length∧Below w.heap.size w wr∧∀t∈L.take k,t≠s) (fun k=>L.length-k) 0 ⟨Nat.zero_le _,bel,by simp⟩ ⟨rfl,rfl,rfl,rfl,trivial⟩ ?_;clear bel;rintro k wr ⟨hk,bel,hno⟩;refine ah ?_;refine eU ?_;refine aL 0 1 7 8 9 (aH ?_);refine Cd.ao rfl (fun hc=> ?_) (fun hc=> ?_)
 ·obtain⟨t,ht⟩:∃t,L[k]? =some t:=⟨_,List.getElem?_eq_getElem (by omega)⟩
  have hr:=hr.below (bel.mono hB);obtain⟨ad,rfl,-,hc⟩:=hr.2 (by omega);have hc:=hc k (.string (strOf t)) (by simp[iK,ht]);have htk:L.take (k+1)=L.take k++[t]:=by rw[List.take_add_one,ht];rfl
  refine Cd.skip (aH (Cd.block (ah ?_)));refine Zm ?_;refine Za ?_;refine aV 0 1 5 7 8 9 (az ?_);refine Zm ?_;refine Zm ?_;refine Zm ?_;refine Zv (aa.gA rfl rfl rfl Tryz.underlying66 (by kernel_rfl) (j:=k) rfl (by omega)) ?_;refine Zv (aa.jN rfl rfl Tryz.underlying9 rfl hc) ?_;refine Zv (aa.ck rfl rfl rfl hs (hL t (List.mem_of_getElem? ht))) ?_;refine ba 0 1 5 7 8 9 16 (Zt ?_);refine Cd.ao rfl (fun hc=> ?_) (fun hc=> ?_)
  ·skip
   refine ah ?_;refine Zm ?_;refine Za ?_;refine bO 0 1 4 5 7 8 9 16 (Zt (Cd.ret (ab.af (ab.ae (ab.aJ (ab.af (ab.ae ?_)))))));refine aP ?_
   have hi:L.idxOf s=k:=by
    have hlt:=(List.getElem?_eq_some_iff.1 ht).1
    have h1:L=L.take k++t::L.drop (k+1):=by
     rw[List.getElem?_eq_getElem hlt] at ht;injection ht with ht
     rw[←ht,List.getElem_cons_drop,List.take_append_drop]
    rw[h1,List.idxOf_append,if_neg (fun hm=>hno s hm rfl),hc,List.idxOf_cons_self,List.length_take];omega
   unfold jU;rw[if_pos (by rw[hc];exact List.mem_of_getElem? ht),hi];exact⟨rfl,bel⟩
  ·skip
   refine Cd.skip (ab.ag (et ?_));refine dq ?_;refine Zm ?_;refine ba 0 1 5 7 8 9 16 ?_;refine ab.round (k+1) ⟨rfl,rfl,rfl,rfl,trivial⟩ ⟨by omega,bel,fun u hu=> ?_⟩ (by omega);rw[htk] at hu;rcases List.mem_append.1 hu with hu|hu
   ·exact hno u hu
   ·obtain rfl:=List.mem_singleton.1 hu
    exact fun e=>hc e.symm
 ·obtain rfl:k=L.length:=by omega
  rw[List.take_of_length_le (Nat.le_refl _)] at hno;refine Cd.exit (ab.aD (ab.ay (ab.aA (az ?_))));refine Za ?_;refine aV 0 1 4 7 8 9 (Zt (Cd.ret ?_));refine aP ?_;unfold jU;rw[if_neg fun hm=>hno s hm rfl];exact⟨rfl,bel⟩
theorem vN (B g:Nat)(L:List (List Nat))(s:List Nat)(w:World)(h:Pl w B g L)(hs:∀d∈s,d<256)(hl:L.length≤20000):
  Calls Tryz.prog 96 #[.pointer (some ⟨g,0,none⟩), .string (strOf s)] w fun e w'=>e= .returned (.int .i64 (L.idxOf s:Int))∧Pf B w w'∧Pl w' B g (ju L s):=by
 obtain⟨v,k0,own⟩:=h.cell;have hB:=h.size;have hge:=h.ge;obtain⟨A0,c0,rfl,-⟩:=own.reads;have bel:=Below.refl w.heap.size w;have hixx:=fun W (hr:Reads W W.heap.size 1 A0 L.length (iK L))=>qb L s A0 c0 _ W hr (Nat.le_refl _) (by omega) h.zJ hs;refine Zs 30 Tryz.func96 ?_;refine ah ?_;refine Za ?_;refine bk 0 1 4 (az ?_);refine Zm ?_;refine Zv (aa.nilCheck rfl rfl) ?_;refine Zf 0 Tryz.underlying111 ?_;refine ZL Tryz.underlying66 k0 ?_;refine Zm ?_;refine Zc (Ze Tryz.func139) (hixx _ (by obtain⟨A1,c1,hv,hrd⟩:=own.reads;injection hv with e1 _ _;subst e1;exact hrd)) ?_;rintro en w5 ⟨rfl,hb5⟩;refine⟨_,rfl,?_⟩;replace bel:=bel.step hb5;replace own:=own.step hb5;replace k0:=k0.step hb5;refine Za ?_;refine aS 0 1 4 5 (aH (ah ?_));refine Zm ?_;refine eU ?_;refine aL 0 1 4 5 13 (Zt ?_);refine Cd.ao rfl (fun hc=> ?_) (fun hc=> ?_)
 ·have hni:s∉L:=fun hm=>by unfold jU at hc;rw[if_pos hm] at hc;omega
  have hie:(L.idxOf s:Int)=(L.length:Int):=by rw[List.idxOf_eq_length hni]
  have hadd:ju L s=L++[s]:=by unfold ju;rw[if_neg hni]
  rw[hadd,hie];refine ah ?_;refine Zm ?_;refine Zv (aa.nilCheck rfl rfl) ?_;refine Zf 0 Tryz.underlying111 ?_;refine ZL Tryz.underlying66 k0 ?_;refine Zv (aa.len rfl rfl Tryz.underlying66) ?_;refine Za ?_;refine aL 0 1 4 5 13 (et ?_);refine Zm ?_;refine Zm ?_;refine Zv (aa.nilCheck rfl rfl) ?_;refine Zf 0 Tryz.underlying111 ?_;refine ZL Tryz.underlying66 k0 ?_;refine Zm ?_;refine Seq.slice (vs:=[_]) (s:=1) rfl rfl rfl Tryz.underlying66 (by kernel_rfl) (cd) (by omega) (by omega) ⟨rfl,trivial⟩ rfl rfl rfl ?_;intro g25 w1 n25;have e25:=Nat.le_trans bel.size n25.ge;have l25:=Nat.lt_of_lt_of_le k0.lt n25.ge;replace bel:=bel.step n25.below;replace own:=own.step n25.below;replace k0:=k0.step n25.below;have k25:=n25.an;have hrd:=Reads.an (size:=1) k25 1 rfl;refine Seq.append rfl rfl rfl Tryz.underlying66 (by kernel_rfl) cd rfl (by decide) (b:=16) (by kernel_rfl) own hrd (by intro x hx;simp[aC,Value.cells] at hx;rw[hx];rfl) (Nat.le_trans hB bel.size) (by simp only[maxLen];omega) (by omega) rfl rfl rfl ?_;intro v1 wa own1 ha;have k0':=k0.grown ha.grown (fun e=>cA own.row k0 (by decide) e.symm);have pf:=(Pf.grow bel).trans (ha.pf own);clear k0;have k0:=k0';obtain⟨A1,c1,rfl,-⟩:=own1.reads;have e0:B≤g:=hge;refine Zv (aa.nilCheck rfl rfl) ?_;refine Zf 0 Tryz.underlying111 ?_;refine Zq k0 ?_;intro w2 pw2;replace k0:=pw2.an;refine aL 0 1 4 5 13 (az ?_);refine Zm ?_;refine Za ?_;refine aL 0 1 4 5 13 (Zt (Cd.ret ?_));have own2:=own1.put k0' pw2 hge;have f2:=pf.uz k0' pw2 hge (.inl rfl);refine aP ?_;refine⟨rfl,f2,hge,fun t ht=> ?_,_,k0,?_⟩
  ·rcases List.mem_append.1 ht with ht|ht
   ·exact h.zJ t ht
   ·simp at ht;subst ht;exact hs
  ·rw[show iK (L++[s])=iK L++iK [s] by simp[iK],List.length_append]
   exact own2
 ·have hmem:s∈L:=Classical.byContradiction fun hm=>by unfold jU at hc;rw[if_neg hm] at hc;omega
  have hie:jU L s=(L.idxOf s:Int):=if_pos hmem;have hadd:ju L s=L:=by unfold ju;rw[if_pos hmem]
  rw[hadd];refine Cd.skip (az ?_);refine Zm ?_;refine Za ?_;refine aL 0 1 4 5 13 (Zt (Cd.ret ?_));refine aP ?_;exact⟨aO (int_eq hie),Pf.grow bel,hge,h.zJ,_,k0,own⟩
end Go.Proofs.YtigoimhndlnhfaaGreat