/-
  Texts that were joined: PanO, PanP, PanQ, ParB, PanR, PanS, PanT, PanU, PanV, CutA, CutB, CutC, ParC, ParD, ClmA, ClmB, ClmC, ParE, LexK, DateE, LexL, ClmD, ClmE. Conditions: what each theorem names.
-/
import Derived.Test.YtigoimhndlnhfaaGreatF4
set_option linter.unusedSectionVars false
namespace Go.Proofs.YtigoimhndlnhfaaGreat
open Go.RowKit
theorem ug {α:Type}(K:Ctx)(h:Nat)(f:Nat)(cp:List Value)(b3 b9:Nat)(r:Rs α)(okv:α→World→Prop)(W:World)(eg:∀args w,(callFunc f args).run Tryz.prog w= .ok (.enter f args) w)
  (k3:aH W b3 190 #[.func (.func f) #[] cp.toArray]) (k9:aH W b9 189 #[.pointer (some ⟨K.g,0,none⟩)]) (hne:r≠ .out)
  (hc:Calls Tryz.prog f ([]++[Value.pointer (some ⟨K.g,0,none⟩)]++cp).toArray W (Ga K h W r okv)):
  Calls Tryz.prog 163 #[.pointer (some ⟨b3,0,none⟩), .pointer (some ⟨b9,0,none⟩)] W (Ga K h W r okv):=by
 have ab:=Below.refl W.heap.size W;have k98:=k3;have k99:=k9;refine Zs 5 Tryz.func163 ?_;refine Zr ?_;refine ZL Tryz.underlying190 k98 ?_;refine ZL Tryz.underlying189 k99 ?_;rcases Rs.dA hne with ⟨q,ov,hr⟩|⟨x,q,hr⟩
 ·rw[hr] at hc⊢
  refine Seq.cZ (Enters.value (first:=[]) (cap:=cp) rfl rfl rfl eg) rfl hc ?_;rintro e w6 ⟨hf,rfl,d6,hp6⟩;refine⟨_,rfl,fun a ha=>⟨ha.defers,?_⟩⟩;exact⟨hf,rfl,d6,hp6⟩
 rw[hr] at hc⊢;refine Seq.call (Enters.value (first:=[]) (cap:=cp) rfl rfl rfl eg) rfl rfl rfl hc ?_;rintro e wq ⟨hf,kpq,⟨v,rfl⟩,pwq,hov⟩;refine⟨_,rfl,?_⟩;refine dF 0 1 ?_;refine ae.gu rfl (.inr rfl) ?_;exact⟨hf,kpq,⟨_,rfl⟩,pwq,hov⟩
def endPos (l:List Nat)(p:Nat):Nat:=((aP l).1.getD p ⟨-1,[],0,l.length⟩).pos
def cv {α:Type}(l:List Nat)(r:Rs α):Nat × Int:=if 4000<l.length then(0,4) else match (aP l).2 with
 |some p=>(p,11)
 |none=>match r with
  | .out=>(0,0)
  | .bad p ov=>if ov=true then(0,13) else(endPos l p,11)
  | .ok _ p=>if p=(aP l).1.length then(0,0) else(endPos l p,11)
def xz {α:Type}(l:List Nat)(r:Rs α)(ok2:α→World→Prop)(h:Nat)(w:World)(e:Ending)(w':World):Prop:=
 Below h w w'∧Kp w w'∧e= .returned (.tuple #[.int .i64 ((cv l r).1:Int), .int .i64 (cv l r).2])∧((cv l r).2=0→∃a p,r= .ok a p∧ok2 a w')
theorem oO (A:Option Addr)(n c:Nat)(z:Int)(w:World):(Instr.build 219 #[(0, .slice A n c),(4, .int .i64 z)]).run Tryz.prog w= .ok (.agg #[.slice A n c, .int .i64 0, .int .i64 0, .bool false, .int .i64 z]) w:=by
 have hu:=Tryz.underlying219
 go_simp
theorem lP (a b c:Int)(s:ByteArray)(w:World):(Instr.field 221 (.agg #[.int .i64 a, .string s, .int .i64 b, .int .i64 c]) 3).run Tryz.prog w= .ok (.int .i64 c) w:=by kernel_rfl
theorem mY:bW Tryz.prog 189=some (some (.pointer none)):=by kernel_rfl
theorem xF {α:Type}(l:List Nat)(hl:∀x∈l,x<256)(hlen:l.length≤9223372036854775807)(f:Nat)(cp:List Value)(h:Nat)(r:Rs α)(okv:World→α→World→Prop)(ok2:α→World→Prop)(w:World)(hh:h≤w.heap.size)(eg:∀args w,(callFunc f args).run Tryz.prog w= .ok (.enter f args) w)
  (hne:r≠ .out)
  (hok:∀a W0 W W' g,okv W0 a W→w.heap.size≤g→g<W0.heap.size→W0.heap.size≤W.heap.size→W.heap.size≤W'.heap.size→(∀k,k<W.heap.size→k≠g→W'.heap[k]? =W.heap[k]?)→ok2 a W')
  (hc:∀K:Ctx,K.Ok→K.ws=(aP l).1→(aP l).2=none→w.heap.size≤K.g→(∀ad,K.A=some ad→w.heap.size≤ad.block)→∀W,Below w.heap.size w W→PW K W 0 0 false→Calls Tryz.prog f ([]++[Value.pointer (some ⟨K.g,0,none⟩)]++cp).toArray W (Ga K h W r (okv W))):
  Calls Tryz.prog 126 #[.string (strOf l), .func (.func f) #[] cp.toArray] w (xz l r ok2 h w):=by
 have ab:=Below.refl w.heap.size w;refine Zs 40 Tryz.func126 ?_;refine aj ?_;refine Seq.box rfl rfl rfl rfl rfl ?_;intro g3 w1 n3;have e3:=Nat.le_trans ab.size n3.ge;replace ab:=ab.step n3.below;have k3:=n3.an;refine Za ?_;refine Za ?_;refine aO 0 1 3 4 5 (aB ?_);refine Zm ?_;refine Zc (Ze Tryz.func161) (Aa l _ hl hlen) ?_;rintro e wv ⟨hb2,⟨h1,rfl⟩|⟨h1,p,h2,rfl⟩|⟨h4,h2,v,rfl,own⟩⟩
 ·have hpa:cv l r=(0,4):=by unfold cv;rw[if_pos h1]
  refine⟨_,rfl,?_⟩;replace ab:=ab.step hb2;replace k3:=k3.step hb2;refine Zm ?_;refine Zx ?_;refine Zx ?_;refine Zx ?_;refine Za ?_;refine Za ?_;refine Za ?_;refine cB 0 1 3 4 5 6 7 8 (aI (aj ?_));refine Zm ?_;refine sJ ?_;refine dY 0 1 3 4 5 6 7 8 18 (Zt ?_);refine Cd.aU rfl (by simp) ?_;refine aj ?_;refine Zm ?_;refine Zm ?_;refine Za ?_;refine Za ?_;refine dY 0 1 3 4 5 6 7 8 18 (Zt (Cd.ret (ae.af ?_)));refine dH ?_;unfold xz;rw[hpa];exact⟨ab.mono hh,(Kp.refl w).step ab,rfl,fun h=>by cases h⟩
 ·have hpa:cv l r=(p,11):=by unfold cv;rw[if_neg (by omega),h2]
  refine⟨_,rfl,?_⟩;replace ab:=ab.step hb2;replace k3:=k3.step hb2;refine Zm ?_;refine Zx ?_;refine Zx ?_;refine Zx ?_;refine Za ?_;refine Za ?_;refine Za ?_;refine cB 0 1 3 4 5 6 7 8 (aI (aj ?_));refine Zm ?_;refine sJ ?_;refine dY 0 1 3 4 5 6 7 8 18 (Zt ?_);refine Cd.aU rfl (by simp) ?_;refine aj ?_;refine Zm ?_;refine Zm ?_;refine Za ?_;refine Za ?_;refine dY 0 1 3 4 5 6 7 8 18 (Zt (Cd.ret (ae.af ?_)));refine dH ?_;unfold xz;rw[hpa];exact⟨ab.mono hh,(Kp.refl w).step ab,rfl,fun h=>by cases h⟩
 obtain⟨A,cap,rfl,hrd⟩:=own.reads;refine⟨_,rfl,?_⟩;replace ab:=ab.step hb2;replace k3:=k3.step hb2;refine Zm ?_;refine Zx ?_;refine Zx ?_;refine Zx ?_;refine Za ?_;refine Za ?_;refine Za ?_;refine cB 0 1 3 4 5 6 7 8 (aI (aj ?_));refine Zm ?_;refine sJ ?_;refine dY 0 1 3 4 5 6 7 8 18 (Zt ?_);refine Cd.aM rfl (by simp) ?_;refine Cd.skip (aB ?_);refine Zm ?_;refine Zm ?_;refine Zv (aa.dh rfl rfl Tryz.underlying9) ?_;refine Zv (aa.build rfl rfl (oO _ _ _ _ _)) ?_;refine Seq.box rfl rfl rfl rfl rfl ?_;intro g25 w2 n25;have e25:=Nat.le_trans ab.size n25.ge;have l25:=Nat.lt_of_lt_of_le k3.lt n25.ge;replace ab:=ab.step n25.below;replace k3:=k3.step n25.below;have k25:=n25.an;refine Zl mY ?_;intro g9 w3 n9;have e9:=Nat.le_trans ab.size n9.ge;have l9:=Nat.lt_of_lt_of_le k25.lt n9.ge;replace ab:=ab.step n9.below;replace k3:=k3.step n9.below;replace k25:=k25.step n9.below;have k9:=n9.an;refine Zq k9 ?_;intro w4 pw4;replace ab:=ab.put k9 pw4 e9;replace k3:=k3.put pw4 (by omega);replace k25:=k25.put pw4 (by omega);replace k9:=pw4.an;refine dq 0 1 3 4 5 6 7 8 9 18 (aI (aj ?_));refine ZL Tryz.underlying189 k9 ?_;refine Zv (aa.makeFunc (v:= .func (.func 163) #[] #[.pointer (some ⟨g3,0,none⟩), .pointer (some ⟨g9,0,none⟩)]) rfl (show jn _ _=some [] from rfl) (show jn _ _=some [.pointer (some ⟨g3,0,none⟩), .pointer (some ⟨g9,0,none⟩)] from rfl) rfl) ?_;have hB4:Below wv.heap.size wv w4:=pw4.jY (n25.below.step n9.below) (Nat.le_trans n25.below.size n9.ge) (by have:=n9.below.size;have:=k9.lt;have:=pw4.size;omega);have hKok:=wO l hl h4 (B:=wv.heap.size) (g:=g25) (c:=cap) (A:=A) n25.ge
 generalize hK:(Ctx.mk wv.heap.size g25 cap l.length A (aP l).1)=K at hKok
 have hKg:K.g=g25:=by rw[←hK]
 have hKw:K.ws=(aP l).1:=by rw[←hK]
 have hKe:K.en=l.length:=by rw[←hK]
 have pw:PW K w4 0 0 false:=by rw[←hK];exact⟨k25,hrd.below hB4,Nat.zero_le _, .inl (by omega)⟩
 have hKA:∀ad,K.A=some ad→w.heap.size≤ad.block:=fun ad h=>by
  rw[←hK] at h;have h:A=some ad:=h;have:=(own.aS ad.block (by rw[h];rfl)).1;have:=n3.below.size;omega
 subst hKg
 have hrun:=CG K hKok 163 [.pointer (some ⟨g3,0,none⟩), .pointer (some ⟨g9,0,none⟩)] h r okv ok2 w4 pw (Nat.le_trans hh ab.size) hne (fun args w=>bG Tryz.func163 (by kernel_rfl) rfl args w)
  (fun a W0 W W' g h1 h2 h3 h4 h5 h6=>hok a W0 W W' g h1 (Nat.le_trans ab.size h2) h3 h4 h5 h6)
  (fun W hb hp=>ug K h f cp g3 g9 r (okv W) W eg (k3.step hb) (k9.step hb) hne (hc K hKok hKw h2 e25 hKA W (ab.step hb) hp))
 refine Zc (Ze Tryz.func162) (hrun) ?_;rcases Rs.dA hne with ⟨q,ov,hr⟩|⟨x,q,hr⟩
 ·rw[hr]
  rintro e w6 ⟨hf,kp,rfl,d6,hp6⟩;refine⟨_,rfl,?_⟩;have k9':=kp.an k9;have kfin:Kp w w6:=((Kp.refl w).step ab).trans kp;have bfin:Below h w w6:=(ab.mono hh).trans (hf.below (Nat.le_refl _) (by omega));have hw6:=ik K hKok q d6 ov w6 hp6;have hpos:(K.at_ q).pos=endPos l q:=by unfold Ctx.at_ endPos;rw[hKw,hKe]
  have k99:=hp6.an;clear k9;have k9:=k9';clear ab;have ab:=Below.refl w6.heap.size w6
  cases ov with
  |true=>
   have hpa:cv l (Rs.bad (α:=α) q true)=(0,13):=by unfold cv;rw[if_neg (by omega),h2];rfl
   refine Za ?_;refine dv 0 1 3 4 5 6 7 8 9 10 18 (Zt (Cd.block (aj ?_)));refine ZL Tryz.underlying189 k9 ?_;refine Zv (aa.nilCheck rfl rfl) ?_;refine Zf 3 Tryz.underlying219 ?_;refine ZL Tryz.underlying4 k99 ?_;refine Za ?_;refine fY 0 1 3 4 5 6 7 8 9 10 18 29 (Zt ?_);refine Cd.aU rfl rfl ?_;refine aj ?_;refine Za ?_;refine Za ?_;refine fY 0 1 3 4 5 6 7 8 9 10 18 29 (Zt (Cd.ret (ae.ag (ae.af ?_))));refine dH ?_;unfold xz;rw[hpa];exact⟨bfin.trans (ab.mono (by have:=bfin.size;omega)),kfin.step ab,rfl,fun h=>by cases h⟩
  |false=>
   have hpa:cv l (Rs.bad (α:=α) q false)=(endPos l q,11):=by unfold cv;rw[if_neg (by omega),h2];rfl
   have hwf:=fun W (hb:Below w6.heap.size w6 W)=>ik K hKok q d6 false W (hp6.step hKok.le hb);refine Za ?_;refine dv 0 1 3 4 5 6 7 8 9 10 18 (Zt (Cd.block (aj ?_)));refine ZL Tryz.underlying189 k9 ?_;refine Zv (aa.nilCheck rfl rfl) ?_;refine Zf 3 Tryz.underlying219 ?_;refine ZL Tryz.underlying4 k99 ?_;refine Za ?_;refine fY 0 1 3 4 5 6 7 8 9 10 18 29 (Zt ?_);refine Cd.aM rfl rfl ?_;refine aj ?_;refine Zm ?_;refine mD ?_;refine Za ?_;refine iq 0 1 3 4 5 6 7 8 9 10 18 29 34 (Zt ?_);refine Cd.aU rfl rfl ?_;refine aj ?_;refine ZL Tryz.underlying189 k9 ?_;refine Zc (Ze Tryz.func164) (hwf _ ab) ?_;rintro e w7 ⟨rfl,hb7⟩;refine⟨_,rfl,?_⟩;replace ab:=ab.step hb7;replace k9:=k9.step hb7;replace k99:=k99.step hb7;refine Zv (aa.field rfl rfl (lP _ _ _ _ _)) ?_;refine Za ?_;refine Za ?_;refine iq 0 1 3 4 5 6 7 8 9 10 18 29 34 (Zt (Cd.ret (ae.ag (ae.af ?_))));refine dH ?_;unfold xz;rw[hpa];refine⟨bfin.trans (ab.mono (by have:=bfin.size;omega)),kfin.step ab,?_,fun h=>by cases h⟩;rw[←hpos]
 ·rw[hr]
  rintro e w6 ⟨hf,kp,rfl,⟨d6,hp6⟩,hov⟩;refine⟨_,rfl,?_⟩;have k9':=kp.an k9;have kfin:Kp w w6:=((Kp.refl w).step ab).trans kp;have bfin:Below h w w6:=(ab.mono hh).trans (hf.below (Nat.le_refl _) (by omega));have hpos:(K.at_ q).pos=endPos l q:=by unfold Ctx.at_ endPos;rw[hKw,hKe]
  have k99:=hp6.an;clear k9;have k9:=k9';clear ab;have ab:=Below.refl w6.heap.size w6;rw[hKw] at *;refine Za ?_;refine dv 0 1 3 4 5 6 7 8 9 10 18 (Zt (Cd.block (aj ?_)));refine ZL Tryz.underlying189 k9 ?_;refine Zv (aa.nilCheck rfl rfl) ?_;refine Zf 3 Tryz.underlying219 ?_;refine ZL Tryz.underlying4 k99 ?_;refine Za ?_;refine fY 0 1 3 4 5 6 7 8 9 10 18 29 (Zt ?_);refine Cd.aM rfl rfl ?_;refine aj ?_;refine Zm ?_;refine mD ?_;refine Za ?_;refine iq 0 1 3 4 5 6 7 8 9 10 18 29 34 (Zt ?_);refine Cd.cond rfl (fun h=> ?_) (fun h=> ?_)
  ·have hq:q≠(aP l).1.length:=by simpa using h
   have hpa:cv l (Rs.ok x q)=(endPos l q,11):=by unfold cv;rw[if_neg (by omega),h2];exact if_neg hq
   have hwf:=fun W (hb:Below w6.heap.size w6 W)=>ik K hKok q d6 false W (hp6.step hKok.le hb);refine aj ?_;refine ZL Tryz.underlying189 k9 ?_;refine Zc (Ze Tryz.func164) (hwf _ ab) ?_;rintro e w7 ⟨rfl,hb7⟩;refine⟨_,rfl,?_⟩;replace ab:=ab.step hb7;replace k9:=k9.step hb7;replace k99:=k99.step hb7;refine Zv (aa.field rfl rfl (lP _ _ _ _ _)) ?_;refine Za ?_;refine Za ?_;refine iq 0 1 3 4 5 6 7 8 9 10 18 29 34 (Zt (Cd.ret (ae.ag (ae.af ?_))));refine dH ?_;unfold xz;rw[hpa];refine⟨bfin.trans (ab.mono (by have:=bfin.size;omega)),kfin.step ab,?_,fun h=>by cases h⟩;rw[←hpos]
  ·have hq:q=(aP l).1.length:=by simpa using h
   have hpa:cv l (Rs.ok x q)=(0,0):=by unfold cv;rw[if_neg (by omega),h2];exact if_pos hq
   refine Cd.skip (ae.ah (aB ?_));refine Za ?_;refine Za ?_;refine iq 0 1 3 4 5 6 7 8 9 10 18 29 34 (Zt (Cd.ret ?_));refine dH ?_;unfold xz;rw[hpa];exact⟨bfin.trans (ab.mono (by have:=bfin.size;omega)),kfin.step ab,rfl,fun _=>⟨x,q,rfl,hov⟩⟩
def Fw (gt:Nat)(W0:World)(x:Tm)(W:World):Prop:=∃(S:Nat→Prop) (v:Value),aH W gt 71 v.cells∧dr W S x v∧∀b,S b→W0.heap.size≤b∧b<W.heap.size
theorem xX (K:Ctx)(hK:K.Ok)(n gt h:Nat)(W:World)(pw:PW K W 0 0 false)(kt:aH W gt 71 #[.int .i64 0, .string {data:= #[]}, .slice none 0 0, .slice none 0 0]) (hg:gt<K.g) (hh:h≤gt) (hKA:∀ad,K.A=some ad→ad.block≠gt) (hne:ja K.ws n 0 0≠ .out):
  Calls Tryz.prog 127 #[.pointer (some ⟨K.g,0,none⟩), .pointer (some ⟨gt,0,none⟩)] W (Ga K h W (ja K.ws n 0 0) (Fw gt W)):=by
 have hcl:=ur K hK n 0 0 W pw hne;have hlt:=pw.an.lt;have hle:=hK.le;have ab:=Below.refl W.heap.size W;refine Zs 5 Tryz.func127 ?_;refine Zr ?_;refine Zm ?_;rcases Rs.dA hne with ⟨q,ov,hr⟩|⟨x,q,hr⟩
 ·rw[hr] at hcl⊢
  refine Seq.cZ (Ze Tryz.func128) rfl hcl ?_;rintro e w6 ⟨hf,rfl,d6,hp6⟩;refine⟨_,rfl,fun a ha=>⟨ha.defers,?_⟩⟩;exact⟨hf,rfl,d6,hp6⟩
 rw[hr] at hcl⊢;refine Zc (Ze Tryz.func128) (hcl) ?_;rintro e wq ⟨hf,v,rfl,pwq,S,hrep,hS⟩;refine⟨_,rfl,?_⟩;have kp0:=(Kp.refl W).fz pw.an hf;have k98:=kt.fz hf (by omega);have hs98:=k98.lt;have k98':=k98;obtain⟨A,c,A',c',rfl⟩:=hrep.form;have hq:=pwq.an.lt;clear ab;have ab:=Below.refl wq.heap.size wq;refine Zo 4 k98 ?_;intro w1 pw1;replace k98:=pw1.an;refine dF 0 1 ?_;refine ae.gu rfl (.inr rfl) ?_;have hsz:=pw1.size;have hbl:∀k,k≠gt→k<wq.heap.size→w1.heap[k]? =wq.heap[k]? :=fun k hk hl=>pw1.grown.block k hl (fun e=>hk (by injection e))
 have hrd:Reads w1 K.B 4 K.A K.ws.length (dg K.ws):=⟨pwq.rd.1,fun h0=>by
  obtain⟨ad,e1,e2,e3⟩:=pwq.rd.2 h0;exact⟨ad,e1,e2,fun j u hu=>(World.cell?_of_block (by rw[av];exact hbl _ (hKA ad e1) (by omega))).trans (e3 j u hu)⟩⟩
 have k98z:aH w1 gt 71 (Value.agg #[Value.int .i64 x.op,Value.string (strOf x.name),Value.slice A x.exprs.length c,Value.slice A' x.aF.length c']).cells:=k98;have kgz:aH w1 K.g 219 _:=pwq.an.put pw1 (by omega);exact⟨⟨pw1.grown.os.trans hf.os,pw1.grown.tape.trans hf.tape,pw1.grown.output.trans hf.output,by have:=hf.size;omega,fun k hk hne=>(hbl k (by omega) (by omega)).trans (hf.block k (by omega) hne)⟩,kp0.put k98' pw1 trivial,⟨_,rfl⟩,⟨kgz,hrd,pwq.bJ,pwq.eo⟩,S,_,k98z,hrep.mono (fun _ h=>h) (fun a ha=>World.cell?_of_block (hbl _ (by have:=(hS _ ha).1;have:=kt.lt;omega) (hS _ ha).2)),fun b hb=>⟨(hS b hb).1,by have:=(hS b hb).2;omega⟩⟩
theorem zE (t:Tm)(B:Nat)(v:Value)(w:World)(hrep:gJ w B t v)(hB:B≤w.heap.size):Calls Tryz.prog 99 #[v] w fun en w'=>en= .returned (.bool (dK t))∧Grow w w':=by
 have hs:=fun W (hb:Below w.heap.size w W)=>nL t.nodes t 0 B v W (Nat.le_refl _) (by omega) (hrep.below (hb.mono hB)) (Nat.le_trans hB hb.size);have hbt:=fun W (hb:Below w.heap.size w W)=>sA t.nodes t B v W (Nat.le_refl _) (hrep.below (hb.mono hB)) (Nat.le_trans hB hb.size);have hc:=Ds t;have hdn:=t.bR
 have hres:(decide (t.nodes≤200)&&decide (t.depth≤16))=(decide ((td t 0).1≤200)&&decide ((td t 0).2≤16)):=by
  obtain⟨c1,c2⟩:=hc;rw[Bool.eq_iff_iff];simp only[Bool.and_eq_true,decide_eq_true_eq]
  constructor
  ·rintro⟨h1,h2⟩
   rw[c2 (by omega)];omega
  ·rintro⟨h1,h2⟩
   have h3:t.nodes≤200:=by omega
   rw[c2 (by omega)] at h2;omega
 unfold dK;rw[hres];obtain⟨A,c,A',c',rfl,-⟩:=hrep.open;have ab:=Below.refl w.heap.size w
 generalize (td t 0)=s at *
 refine Zs 10 Tryz.func99 ?_;refine aj ?_;refine Seq.box rfl rfl rfl rfl rfl ?_;intro g1 w1 n1;have e1:=Nat.le_trans ab.size n1.ge;replace ab:=ab.step n1.below;have k1:=n1.an;refine Za ?_;refine bn 0 1 2 (aB ?_);refine ZW 4 Tryz.underlying71 k1 ?_;refine Zc (Ze Tryz.func140) (hs _ ab) ?_;rintro en w5 ⟨rfl,hb5⟩;refine⟨_,rfl,?_⟩;replace ab:=ab.step hb5;replace k1:=k1.step hb5;refine Zc (Ze Tryz.func141) (pD s.1 s.2 _) ?_;rintro en w6 ⟨rfl,hb6⟩;refine⟨_,rfl,?_⟩;replace ab:=ab.step hb6;replace k1:=k1.step hb6;refine Zm ?_;refine aw.start ?_;refine bw (fun hcx=>aa.eK rfl rfl Tryz.underlying71 rfl k1 (m:=4) (by kernel_rfl) rfl) ?_;refine aw.bU rfl rfl rfl rfl rfl rfl rfl (fun hcx=>Ze Tryz.func142) (fun hcx=>hbt _ ab) ?_;intro w2 hw2;replace ab:=ab.step hw2;replace k1:=k1.step hw2;refine fQ ?_;refine Za ?_;refine bn 0 1 2 (Zt (Cd.ret ?_));refine aZ ?_;exact⟨bt (aJ (by cases (decide (s.1≤200)&&decide (s.2≤16))<;>rfl)),ab⟩
section
variable {α β:Type}
def fE (f:Nat→Nat→Rs α):Prop:=∀p d a q,f p d= .ok a q→p<q
def Def (f:Nat→Nat→Rs α)(m:Nat):Prop:=∀p d,m≤p→f p d≠ .out
theorem Def.up {f:Nat→Nat→Rs α}{m m':Nat}(h:Def f m)(hm:m≤m'):Def f m':=fun p d hp=>h p d (by omega)
theorem Rs.ax {r:Rs α}{f:α→Nat→Rs β}{b:β}{q:Nat}(h:r.bind f= .ok b q):∃a p,r= .ok a p∧f a p= .ok b q:=by
 cases r with
 |out=>cases h
 |bad p o=>cases h
 |ok a p=>exact⟨a,p,rfl,h⟩
theorem Rs.bp {r:Rs α}{f:α→Nat→Rs β}(h:r≠ .out)(hf:∀a p,r= .ok a p→f a p≠ .out):r.bind f≠ .out:=by
 cases r with
 |out=>exact absurd rfl h
 |bad p o=>exact fun h=>by cases h
 |ok a p=>exact hf a p rfl
theorem ic {ws:List Wd}{s:List Nat}{p q:Nat}{u:Unit}(h:bF ws s p= .ok u q):q=p+1∧rW ws p s=true:=by
 unfold bF at h;split at h
 ·rename_i hs
  injection h with _ h
  exact⟨h.symm,hs⟩
 ·cases h
theorem og (ws:List Wd)(s:List Nat)(p:Nat):bF ws s p≠ .out:=by
 unfold bF;split<;>exact fun h=>by cases h
theorem iJ {p d q:Nat}{u:Unit}(h:db p d= .ok u q):q=p∧d<64:=by
 unfold db at h;split at h
 ·cases h
 ·injection h with _ h
  exact⟨h.symm,by omega⟩
theorem qi (p d:Nat):db p d≠ .out:=by
 unfold db;split<;>exact fun h=>by cases h
theorem oY (ws:List Wd):∀(aV:List (Nat→Nat→Rs α)),(∀f∈aV,fE f)→∀first p d xs q,bl ws aV first p d= .ok xs q→p≤q
 | [],_,first,p,d,xs,q,h=>by injection h with _ h;omega
 |f::r,hm,first,p,d,xs,q,h=>by
  rw[bl] at h;obtain⟨u,p1,h1,h⟩:=Rs.ax h;obtain⟨x,p2,h2,h⟩:=Rs.ax h;obtain⟨ys,p3,h3,h⟩:=Rs.ax h;injection h with _ h
  have e1:p≤p1:=by
   split at h1
   ·injection h1 with _ h1;omega
   ·have:=(ic h1).1;omega
  have e2:=hm f (by simp) _ _ _ _ h2;have e3:=oY ws r (fun g hg=>hm g (by simp[hg])) _ _ _ _ _ h3;omega
theorem rz (ws:List Wd)(m:Nat):∀(aV:List (Nat→Nat→Rs α)),(∀f∈aV,fE f∧Def f m)→∀first p d,m≤p→bl ws aV first p d≠ .out
 | [],_,first,p,d,_=>fun h=>by cases h
 |f::r,hm,first,p,d,hp=>by
  rw[bl];refine Rs.bp ?_ fun u p1 h1=> ?_
  ·split
   ·exact fun h=>by cases h
   ·exact og _ _ _
  have e1:p≤p1:=by
   split at h1
   ·injection h1 with _ h1;omega
   ·have:=(ic h1).1;omega
  refine Rs.bp ((hm f (by simp)).2 _ _ (by omega)) fun x p2 h2=> ?_;have e2:=(hm f (by simp)).1 _ _ _ _ h2;refine Rs.bp (rz ws m r (fun g hg=>hm g (by simp[hg])) _ _ _ (by omega)) fun ys p3 h3=> ?_;exact fun h=>by cases h
theorem iH (ws:List Wd)(aV:List (Nat→Nat→Rs α))(hm:∀f∈aV,fE f){p d:Nat}{xs:List α}{q:Nat}(h:aT ws aV p d= .ok xs q):p+2≤q:=by
 unfold aT at h;obtain⟨u,p1,h1,h⟩:=Rs.ax h;obtain⟨u2,p2,h2,h⟩:=Rs.ax h;obtain⟨ys,p3,h3,h⟩:=Rs.ax h;obtain⟨u3,p4,h4,h⟩:=Rs.ax h;injection h with _ h
 have:=(ic h1).1;have:=(iJ h2).1;have:=oY ws aV hm _ _ _ _ _ h3;have:=(ic h4).1;omega
theorem jk (ws:List Wd)(aV:List (Nat→Nat→Rs α)){p:Nat}(d:Nat)(hm:∀f∈aV,fE f∧Def f (p+1)):aT ws aV p d≠ .out:=by
 unfold aT;refine Rs.bp (og _ _ _) fun u p1 h1=> ?_;refine Rs.bp (qi _ _) fun u2 p2 h2=> ?_;have:=(ic h1).1;have:=(iJ h2).1;refine Rs.bp (rz ws (p+1) aV hm _ _ _ (by omega)) fun xs p3 h3=> ?_;refine Rs.bp (og _ _ _) fun u3 p4 h4=> ?_;exact fun h=>by cases h
theorem jb {ws:List Wd}{p q:Nat}{x:List Nat}(h:eA ws p= .ok x q):q=p+1∧x=(dn ws p).text∧(dn ws p).kind=3∧cl (dn ws p).text=false:=by
 unfold eA at h;split at h
 ·rename_i hs
  injection h with h1 h
  exact⟨h.symm,h1.symm,hs.1,hs.2⟩
 ·cases h
theorem sd (ws:List Wd)(p:Nat):eA ws p≠ .out:=by
 unfold eA;split<;>exact fun h=>by cases h
theorem tC {ws:List Wd}{E0:Nat→Nat→Rs Ex}(hE:fE E0){op:Int}{k p d:Nat}{x:Ex}{q:Nat}(h:bV ws E0 op k p d= .ok x q):p<q:=by
 unfold bV at h;obtain⟨xs,p1,h1,h⟩:=Rs.ax h;injection h with _ h
 have:=iH ws _ (fun f hf=>(List.mem_replicate.1 hf).2▸hE) h1;omega
theorem vH {ws:List Wd}{E0:Nat→Nat→Rs Ex}(hE:fE E0){op:Int}{k p d:Nat}(hd:Def E0 (p+1)):bV ws E0 op k p d≠ .out:=by
 unfold bV;refine Rs.bp (jk ws _ d fun f hf=>(List.mem_replicate.1 hf).2▸⟨hE,hd.up (by omega)⟩) fun xs p1 h1=> ?_;exact fun h=>by cases h
theorem xa {ws:List Wd}{E0:Nat→Nat→Rs Ex}(hE:fE E0):fE (fm ws E0):=by
 intro p d x q h;unfold fm at h
 repeat' split at h
 all_goals first
  |exact tC hE h
  |(injection h with _ h;omega)
  |(obtain⟨nm,p1,h1,h⟩:=Rs.ax h;injection h with _ h;have:=(jb h1).1;omega)
  |(obtain⟨xs,p1,h1,h⟩:=Rs.ax h;injection h with _ h;have:=iH ws _ (fun f hf=>(List.mem_singleton.1 hf)▸hE) h1;omega)
  |cases h
theorem zu {ws:List Wd}{E0:Nat→Nat→Rs Ex}(hE:fE E0){p d:Nat}(hd:Def E0 (p+1)):fm ws E0 p d≠ .out:=by
 unfold fm
 repeat' split
 all_goals first
  |exact vH hE hd
  |exact fun h=>by cases h
  |exact Rs.bp (sd _ _) fun nm p1 h1=>fun h=>by cases h
  |exact Rs.bp (jk ws _ d fun f hf=>(List.mem_singleton.1 hf)▸⟨hE,hd⟩) fun xs p1 h1=>fun h=>by cases h
theorem pC {S:Nat→Nat→Rs Ex}(hS:fE S)(op:Int):fE (dz S op):=by
 intro p d x q h;unfold dz at h;obtain⟨u,p1,h1,h⟩:=Rs.ax h;obtain⟨y,p2,h2,h⟩:=Rs.ax h;injection h with _ h
 have:=(iJ h1).1;have:=hS _ _ _ _ h2;omega
theorem qC {S:Nat→Nat→Rs Ex}(op:Int){p d:Nat}(hS:Def S (p+1)):dz S op p d≠ .out:=by
 unfold dz;refine Rs.bp (qi _ _) fun u p1 h1=> ?_;have:=(iJ h1).1;exact Rs.bp (hS _ _ (by omega)) fun y p2 h2=>fun h=>by cases h
theorem lU {ws:List Wd}{S E0:Nat→Nat→Rs Ex}(hS:fE S)(hE:fE E0):fE (bD ws S E0):=by
 intro p d x q h;unfold bD at h;split at h
 ·exact pC hS _ _ _ _ _ h
 ·split at h
  ·exact pC hS _ _ _ _ _ h
  ·exact xa hE _ _ _ _ h
theorem xY {ws:List Wd}{S E0:Nat→Nat→Rs Ex}(hE:fE E0){p d:Nat}(hS:Def S (p+1))(hd:Def E0 (p+1)):bD ws S E0 p d≠ .out:=by
 unfold bD;split
 ·exact qC _ hS
 ·split
  ·exact qC _ hS
  ·exact zu hE hd
end
structure yO (f:PF):Prop where
 E:∀lvl,fE (f.E lvl)
 L:∀lvl x p d a q,f.L lvl x p d= .ok a q→p≤q
 S:fE f.S
theorem np {ws:List Wd}{f:PF}(h:yO f){lvl:Nat}{x:Ex}{p d:Nat}{a:Ex}{q:Nat}(hl:dI ws f lvl x p d= .ok a q):p≤q:=by
 unfold dI at hl
 cases ho:opAt ws lvl p with
 |none=>rw[ho] at hl;injection hl with _ hl;omega
 |some op=>
  rw[ho] at hl;obtain⟨r,p1,h1,hl⟩:=Rs.ax hl;have:=h.E _ _ _ _ _ h1;split at hl
  ·injection hl with _ hl;omega
  ·have:=h.L _ _ _ _ _ _ hl;omega
theorem oD {L:Nat→Ex→Nat→Nat→Rs Ex}{S:Nat→Nat→Rs Ex}(hL:∀lvl x p d a q,L lvl x p d= .ok a q→p≤q)(hS:fE S):∀j,fE (lH L S j)
 |0=>hS
 |j+1=>fun p d a q h=>by
  rw[lH] at h;obtain⟨x,p1,h1,h⟩:=Rs.ax h;have:=oD hL hS j _ _ _ _ h1;have:=hL _ _ _ _ _ _ h;omega
theorem gM (ws:List Wd):∀n,yO (bH ws n)
 |0=>⟨fun _ _ _ _ _ h=>(by cases h),fun _ _ _ _ _ _ h=>(by cases h),fun _ _ _ _ h=>(by cases h)⟩
 |n+1=>by
  have ih:=gM ws n;have hL:∀lvl x p d a q,dI ws (bH ws n) lvl x p d= .ok a q→p≤q:=fun lvl x p d a q h=>np ih h;have hS:=lU (ws:=ws) ih.S (ih.E 0);exact⟨fun lvl=>oD hL hS _,hL,hS⟩
theorem El {ws:List Wd}{lvl p:Nat}{op:Int}(h:opAt ws lvl p=some op):p<ws.length:=by
 rcases Nat.lt_or_ge p ws.length with h1|h1
 ·exact h1
 ·unfold opAt dn at h
  rw[List.getD_eq_getElem?_getD,List.getElem?_eq_none h1] at h;simp at h
structure E7 (f:PF)(m:Nat):Prop where
 E:∀lvl,Def (f.E lvl) m
 L:∀lvl x p d,m≤p→f.L lvl x p d≠ .out
 S:Def f.S m
theorem AO {ws:List Wd}{f:PF}(hm:yO f){m:Nat}(h:E7 f (m+1)){lvl:Nat}{x:Ex}{p d:Nat}(hp:m≤p):dI ws f lvl x p d≠ .out:=by
 unfold dI
 cases ho:opAt ws lvl p with
 |none=>exact fun h=>by cases h
 |some op=>
  refine Rs.bp (h.E _ _ _ (by omega)) fun r p1 h1=> ?_;have:=hm.E _ _ _ _ _ h1;split
  ·exact fun h=>by cases h
  ·exact h.L _ _ _ _ (by omega)
theorem qO {L:Nat→Ex→Nat→Nat→Rs Ex}{S:Nat→Nat→Rs Ex}{m:Nat}(hLm:∀lvl x p d a q,L lvl x p d= .ok a q→p≤q)(hSm:fE S)(hL:∀lvl x p d,m≤p→L lvl x p d≠ .out)(hS:Def S m):∀j,Def (lH L S j) m
 |0=>hS
 |j+1=>fun p d hp=>by
  rw[lH];refine Rs.bp (qO hLm hSm hL hS j _ _ hp) fun x p1 h1=> ?_;have:=oD hLm hSm j _ _ _ _ h1;exact hL _ _ _ _ (by omega)
theorem yu {ws:List Wd}{p:Nat}(h:ws.length≤p):dn ws p=⟨-1,[],0,0⟩:=by
 unfold dn;rw[List.getD_eq_getElem?_getD,List.getElem?_eq_none h];rfl
theorem qN {ws:List Wd}{p:Nat}(h:ws.length≤p)(S E0:Nat→Nat→Rs Ex)(d:Nat):bD ws S E0 p d= .bad p false:=by
 unfold bD rW fm;rw[yu h];rfl
theorem Ao {ws:List Wd}{p:Nat}(h:ws.length≤p)(f:PF)(lvl:Nat)(x:Ex)(d:Nat):dI ws f lvl x p d= .ok x p:=by
 unfold dI
 cases ho:opAt ws lvl p with
 |none=>rfl
 |some op=>have:=El ho;omega
theorem ox (ws:List Wd):∀n m,ws.length<n+1+m→E7 (bH ws (n+1)) m
 |0,m,h=>by
  have im:=gM ws 0;have hLm:∀lvl x p d a q,dI ws (bH ws 0) lvl x p d= .ok a q→p≤q:=fun lvl x p d a q h=>np im h;have hSm:=lU (ws:=ws) im.S (im.E 0);have hL:∀lvl x p d,m≤p→dI ws (bH ws 0) lvl x p d≠ .out:=fun lvl x p d hp=>by rw[Ao (by omega)];exact fun h=>by cases h
  have hS:Def (bD ws (bH ws 0).S ((bH ws 0).E 0)) m:=fun p d hp=>by rw[qN (by omega)];exact fun h=>by cases h
  exact⟨fun lvl=>qO hLm hSm hL hS _,hL,hS⟩
 |n+1,m,h=>by
  have ih:=ox ws n (m+1) (by omega);have im:=gM ws (n+1);have hLm:∀lvl x p d a q,dI ws (bH ws (n+1)) lvl x p d= .ok a q→p≤q:=fun lvl x p d a q h=>np im h;have hSm:=lU (ws:=ws) im.S (im.E 0);have hL:∀lvl x p d,m≤p→dI ws (bH ws (n+1)) lvl x p d≠ .out:=fun lvl x p d hp=>AO im ih hp;have hS:Def (bD ws (bH ws (n+1)).S ((bH ws (n+1)).E 0)) m:=fun p d hp=>xY (im.E 0) (ih.S.up (by omega)) ((ih.E 0).up (by omega));exact⟨fun lvl=>qO hLm hSm hL hS _,hL,hS⟩
theorem Rs.lj {α β:Type}{r:Rs α}{f:α→β}{b:β}{q:Nat}(h:r.map f= .ok b q):∃a,r= .ok a q∧b=f a:=by
 unfold Rs.map at h;obtain⟨a,p,h1,h⟩:=Rs.ax h;injection h with h2 h3
 exact⟨a,by rw[h1,h3],h2.symm⟩
theorem ml {E0:Nat→Nat→Rs Ex}{T:Nat→Nat→Rs Tm}{n m:Nat}{f:Nat→Nat→Rs Part}(h:f∈eO E0 T n m):f=(fun p d=>(E0 p d).map .inl)∨f=(fun p d=>(T p d).map .inr):=by
 unfold eO at h;rcases List.mem_append.1 h with h|h
 ·exact .inl (List.mem_replicate.1 h).2
 ·exact .inr (List.mem_replicate.1 h).2
theorem ra {E0:Nat→Nat→Rs Ex}{T:Nat→Nat→Rs Tm}(hE:fE E0)(hT:fE T){n m:Nat}:∀f∈eO E0 T n m,fE f:=fun f hf p d a q h=>by
 rcases ml hf with rfl|rfl
 ·obtain⟨x,h1,-⟩:=Rs.lj h
  exact hE _ _ _ _ h1
 ·obtain⟨x,h1,-⟩:=Rs.lj h
  exact hT _ _ _ _ h1
theorem An {E0:Nat→Nat→Rs Ex}{T:Nat→Nat→Rs Tm}{k:Nat}(hE:Def E0 k)(hT:Def T k){n m:Nat}:∀f∈eO E0 T n m,Def f k:=fun f hf p d hp=>by
 rcases ml hf with rfl|rfl
 ·exact Rs.bp (hE _ _ hp) fun a q h=>fun h=>by cases h
 ·exact Rs.bp (hT _ _ hp) fun a q h=>fun h=>by cases h
theorem xC {ws:List Wd}{E0:Nat→Nat→Rs Ex}{T:Nat→Nat→Rs Tm}(hE:fE E0)(hT:fE T):fE (ee ws E0 T):=by
 intro p d x q h;unfold ee at h
 repeat' split at h
 ·cases h
 ·injection h with _ h;omega
 ·obtain⟨xs,p1,h1,h⟩:=Rs.ax h
  injection h with _ h
  have:=iH ws _ (fun f hf=>(List.mem_singleton.1 hf)▸fun p d a q h=>by have:=(jb h).1;omega) h1;omega
 ·cases h
 ·obtain⟨xs,p1,h1,h⟩:=Rs.ax h
  injection h with _ h
  have:=iH ws _ (ra hE hT) h1;omega
theorem zg {ws:List Wd}{E0:Nat→Nat→Rs Ex}{T:Nat→Nat→Rs Tm}(hE:fE E0)(hT:fE T){p d:Nat}(dE:Def E0 (p+1))(dT:Def T (p+1)):ee ws E0 T p d≠ .out:=by
 unfold ee
 repeat' split
 ·exact fun h=>by cases h
 ·exact fun h=>by cases h
 ·refine Rs.bp (jk ws _ d fun f hf=>(List.mem_singleton.1 hf)▸⟨fun p d a q h=>by have:=(jb h).1;omega,fun p d _=>sd ws p⟩) fun xs p1 h1=>fun h=>by cases h
 ·exact fun h=>by cases h
 ·refine Rs.bp (jk ws _ d fun f hf=>⟨ra hE hT f hf,An (dE.up (by omega)) (dT.up (by omega)) f hf⟩) fun xs p1 h1=>fun h=>by cases h
theorem na (ws:List Wd):∀n,fE (ja ws n)
 |0=>fun _ _ _ _ h=>(by cases h)
 |n+1=>fun p d x q h=>xC ((gM ws (n+1)).E 0) (na ws n) p d x q h
theorem zC {ws:List Wd}{p:Nat}(h:ws.length≤p)(E0:Nat→Nat→Rs Ex)(T:Nat→Nat→Rs Tm)(d:Nat):ee ws E0 T p d= .bad p false:=by
 unfold ee;rw[yu h];rfl
theorem oH (ws:List Wd):∀n m,ws.length<n+1+m→Def (ja ws (n+1)) m
 |0,m,h=>fun p d hp=>by
  show ee ws _ _ p d≠ .out;rw[zC (by omega)];exact fun h=>by cases h
 |n+1,m,h=>fun p d hp=>by
  have hE:=(ox ws (n+1) (m+1) (by omega)).E 0;have hT:=oH ws n (m+1) (by omega);exact zg ((gM ws (n+2)).E 0) (na ws (n+1)) (hE.up (by omega)) (hT.up (by omega))
def gF (ws:List Wd):Rs Tm:=ja ws (ws.length+1) 0 0
theorem qH (ws:List Wd):gF ws≠ .out:=oH ws ws.length 0 (by omega) 0 0 (Nat.le_refl _)
section
variable {P:Program} {n:Nat} {F:List (Nat × Value)} {w:World} {v v':Value}
theorem ae.nB {fn:Func}{R:Ending→World→Prop}{e:Exit}{p q s g:Nat}{ty t:TypeId}{cs:Array Value}{dsc:TypeDesc}(hr:fn.results= #[.cell p ty, .tmp q, .tmp s]) (hl:look F p=some (.pointer (some ⟨g,0,none⟩))) (hq:look F q=some v) (hq':look F s=some v') (hb:aH w g t cs) (hu:P.underlying ty=some dsc)
  (hd:(match dsc with| .struct _| .array _ _=>true|_=>false)=true) {m:Nat} (hs:dB P ty m=true) (hm:cs.size=m) (he:e= .ret∨e= .normal) (h:R (.returned (.tuple #[.agg cs,v,v'])) w):ae (bodyPost P fn R) e n F w:=by
 refine ae.end_ (fun a ha=> ?_) he h
 ·have hp':a.tmps[p]?.getD undef= .pointer (some ⟨g,0,none⟩):=by simp[ha.slot p _ hl]
  have e:=run_loadVar_row (P:=P) w g t ty cs (0,0) dsc hb hu (by cases dsc<;>first|rfl|(simp at hd)) (by obtain⟨inf,hi,hsz⟩:=bL hs;rw[hi,hm,←hsz];rfl);simp[results,hr,hp',asAddr,e,ha.slot q _ hq,ha.slot s _ hq']
end
def ft:Tm:= .mk 0 [] [] []
def j0:Ex:= .mk 0 0 [] []
theorem dr.zero (W:World)(S:Nat→Prop):dr W S ft (.agg #[.int .i64 0, .string (strOf []), .slice none 0 0, .slice none 0 0]):=
 .mk (vs:=[]) (us:=[]) rfl rfl (by simp) (by simp) (by unfold bm;decide) (by simp) (by simp) (fun i e v h=>by simp at h) (fun i e v h=>by simp at h) (fun h=>absurd rfl h) (fun h=>absurd rfl h)
theorem cw.zero (W:World)(S:Nat→Prop):cw W S j0 (.agg #[.int .i64 0, .int .i64 0, .string (strOf []), .slice none 0 0]):=
 .mk (vs:=[]) rfl (by simp) (by unfold bm;decide) (by unfold bm;decide) (by simp) (by simp) (fun i e v h=>by simp at h) (fun h=>absurd rfl h)
def cq (l:List Nat):Tm × Nat × Int:=if(cv l (gF (aP l).1)).2≠0 then(ft,(cv l (gF (aP l).1)).1,(cv l (gF (aP l).1)).2) else match gF (aP l).1 with
 | .ok x _=>if dK x=true then(x,0,0) else(ft,0,13)
 |_=>(ft,0,0)
theorem xc {α:Type}{l:List Nat}{r:Rs α}(h:(cv l r).2=0):(cv l r).1=0:=by
 unfold cv at h⊢
 by_cases h4:4000<l.length
 ·rw[if_pos h4]
 ·rw[if_neg h4] at h⊢
  cases h2:(aP l).2 with
  |some p=>rw[h2] at h;cases h
  |none=>
   rw[h2] at h
   cases r with
   |out=>rfl
   |bad p ov=>cases ov<;>cases h
   |ok a p=>
    dsimp only at h⊢;split at h
    ·rename_i h3;rw[if_pos h3]
    ·cases h
theorem Fw.kept {gt:Nat}{w W0 W W':World}{a:Tm}{g:Nat}(h:Fw gt W0 a W)(hgt:gt<w.heap.size)(h2:w.heap.size≤g)(h3:g<W0.heap.size)(h4:W0.heap.size≤W.heap.size)(h5:W.heap.size≤W'.heap.size)(h6:∀k,k<W.heap.size→k≠g→W'.heap[k]? =W.heap[k]?):Fw gt w a W':=by
 obtain⟨S,v,h7,h8,h9⟩:=h;refine⟨S,v,?_,h8.mono (fun _ h=>h) (fun p hp=>World.cell?_of_block (h6 _ (h9 _ hp).2 (by have:=(h9 _ hp).1;omega))),fun b hb=>⟨by have:=(h9 b hb).1;omega,by have:=(h9 b hb).2;omega⟩⟩;unfold aH at h7⊢;rw[h6 gt (by omega) (by omega)];exact h7
theorem dP (w:World):(Instr.build 71 #[]).run Tryz.prog w= .ok (.agg #[.int .i64 0, .string (strOf []), .slice none 0 0, .slice none 0 0]) w:=by kernel_rfl
theorem iD (w:World):(Instr.build 105 #[]).run Tryz.prog w= .ok (.agg #[.int .i64 0, .int .i64 0, .string (strOf []), .slice none 0 0]) w:=by kernel_rfl
theorem zI (l:List Nat)(w:World)(hl:∀x∈l,x<256)(hlen:l.length≤9223372036854775807):
  Calls Tryz.prog 81 #[.string (strOf l)] w fun e w'=>Below w.heap.size w w'∧∃(v:Value) (S:Nat→Prop),e= .returned (.tuple #[v, .int .i64 ((cq l).2.1:Int), .int .i64 (cq l).2.2])∧dr w' S (cq l).1 v∧∀b,S b→w.heap.size≤b∧b<w'.heap.size:=by
 have ab:=Below.refl w.heap.size w;refine Zs 27 Tryz.func81 ?_;refine aj ?_;refine Zl aG ?_;intro g2 w1 n2;have e2:=Nat.le_trans ab.size n2.ge;replace ab:=ab.step n2.below;have k2:=n2.an;refine Za ?_;refine Za ?_;refine aQ 0 2 3 4 (aB ?_);refine Zl aG ?_;intro g5 w2 n5;have e5:=Nat.le_trans ab.size n5.ge;have l5:=Nat.lt_of_lt_of_le k2.lt n5.ge;replace ab:=ab.step n5.below;replace k2:=k2.step n5.below;have k5:=n5.an;refine aO 0 2 3 4 5 (aB ?_);refine Zm ?_;refine Zv (aa.makeFunc (v:= .func (.func 127) #[] #[.pointer (some ⟨g5,0,none⟩)]) rfl (show jn _ _=some [] from rfl) (show jn _ _=some [.pointer (some ⟨g5,0,none⟩)] from rfl) rfl) ?_;have hg5:=k5.lt
 have hps:=xF l hl hlen 127 [.pointer (some ⟨g5,0,none⟩)] g5 (gF (aP l).1) (Fw g5) (Fw g5 w2) w2 (Nat.le_of_lt hg5) (fun args w=>bG Tryz.func127 (by kernel_rfl) rfl args w) (qH _)
  (fun a W0 W W' g h1 h2 h3 h4 h5 h6=>h1.kept hg5 h2 h3 h4 h5 h6)
  (fun K hK hw h2 hg hA W hb hp=>by
   have:=xX K hK ((aP l).1.length+1) g5 g5 W hp (k5.step hb) (by omega) (Nat.le_refl _) (fun ad ha=>by have:=hA ad ha;omega) (by rw[hw];exact qH _);rw[hw] at this;exact this)
 refine Zc (Ze Tryz.func126) (hps) ?_;rintro e w6 ⟨hb6,kp6,rfl,hok⟩;refine⟨_,rfl,?_⟩;have bel6:Below w.heap.size w w6:=ab.trans (hb6.mono e5);have k2':aH w6 g2 71 _:=(show w6.heap[g2]? =w2.heap[g2]? from hb6.block g2 l5).trans k2;have hlt6:=bel6.size;clear ab k5 k2;have ab:=bel6;have k2:=k2';have hA:=xc (l:=l) (r:=gF (aP l).1);obtain⟨z,hz⟩:∃z,(cv l (gF (aP l).1)).2=z:=⟨_,rfl⟩;obtain⟨y,hy⟩:∃y,(cv l (gF (aP l).1)).1=y:=⟨_,rfl⟩;rw[hz] at hok hA⊢;rw[hy] at hA⊢
 by_cases hz0:z=0
 ·obtain⟨x,q,hx,S,v,k5,hrep,hS⟩:=hok hz0
  have hps2:cq l=if dK x=true then(x,0,0) else(ft,0,13):=by unfold cq;rw[if_neg (by rw[hz];exact fun h=>h hz0),hx]
  obtain rfl:=hA hz0;subst hz0;have hrb:gJ w6 w6.heap.size x v:=hrep.mono (fun b hb=>(hS b hb).2) (fun _ _=>rfl);obtain⟨A,c,A',c',rfl⟩:=hrep.form;have hri:=zE x w6.heap.size _ w6 hrb (Nat.le_refl _);have k5:aH w6 g5 71 #[.int .i64 x.op, .string (strOf x.name), .slice A x.exprs.length c, .slice A' x.aF.length c']:=k5
  generalize dK x=b at *
  refine Zm ?_;refine Zx ?_;refine Zx ?_;refine Za ?_;refine Za ?_;refine ba 0 2 3 4 5 6 7 (aI (aj ?_));refine Zm ?_;refine Zv ((aa.fh rfl rfl rfl).lK (rfl)) ?_;refine Zm ?_;refine Seq.aE (aa.eK rfl rfl Tryz.underlying71 rfl k5 (m:=4) (by kernel_rfl) rfl) rfl rfl rfl rfl rfl ?_;refine Seq.ue (Ze Tryz.func99) rfl rfl rfl rfl rfl (hri) ?_;rintro e w7 ⟨rfl,hb7⟩;refine⟨_,rfl,?_⟩;replace ab:=ab.step hb7;replace k2:=k2.step hb7;replace k5:=k5.step hb7;refine Seq.aE (aa.not rfl rfl) rfl rfl rfl rfl rfl ?_;refine Zv (aa.cQ rfl rfl rfl) ?_;have hw67:=hb7.size
  cases b with
  |true=>
   refine cB 0 2 3 4 5 6 7 20 (Zt ?_);refine Cd.aM rfl rfl ?_;refine Cd.skip (aI (aj ?_));refine Zm ?_;refine sJ ?_;refine dY 0 2 3 4 5 6 7 20 22 (Zt ?_);refine Cd.aM rfl (by simp) ?_;refine Cd.skip (aB ?_);refine ZW 4 Tryz.underlying71 k5 ?_;refine Zo 4 k2 ?_;intro w3 pw3;replace ab:=ab.put k2 pw3 e2;replace k5:=k5.put pw3 (by omega);replace k2:=pw3.an;refine Za ?_;refine Za ?_;refine dY 0 2 3 4 5 6 7 20 22 (Zt (Cd.ret ?_));refine ae.nB rfl rfl rfl rfl k2 Tryz.underlying71 rfl (m:=4) (by kernel_rfl) rfl (.inl rfl) ?_;rw[hps2,if_pos rfl];have hsz:=pw3.size;refine⟨ab, .agg #[.int .i64 x.op, .string (strOf x.name), .slice A x.exprs.length c, .slice A' x.aF.length c'],S,rfl,hrep.mono (fun _ h=>h) fun p hp=>World.cell?_of_block ?_,fun b hb=> ?_⟩
   ·have:=hS _ hp
    exact(pw3.grown.block _ (by omega) (fun e=>by injection e with e;omega)).trans (hb7.block _ this.2)
   ·have:=hS b hb
    have:=hb6.size;omega
  |false=>
   refine cB 0 2 3 4 5 6 7 20 (Zt ?_);refine Cd.aU rfl rfl ?_;refine Zr ?_;refine Za ?_;refine cB 0 2 3 4 5 6 7 20 (aI (aj ?_));refine Zm ?_;refine sJ ?_;refine dY 0 2 3 4 5 6 7 20 22 (Zt ?_);refine Cd.aU rfl (by simp) ?_;refine aj ?_;refine Zv (aa.build rfl rfl (dP _)) ?_;refine Zm ?_;refine Zm ?_;refine Zo 4 k2 ?_;intro w3 pw3;replace ab:=ab.put k2 pw3 e2;replace k5:=k5.put pw3 (by omega);replace k2:=pw3.an;refine Za ?_;refine Za ?_;refine dY 0 2 3 4 5 6 7 20 22 (Zt (Cd.ret (ae.af ?_)));refine ae.nB rfl rfl rfl rfl k2 Tryz.underlying71 rfl (m:=4) (by kernel_rfl) rfl (.inl rfl) ?_;rw[hps2,if_neg (by simp)];exact⟨ab, .agg #[.int .i64 0, .string (strOf []), .slice none 0 0, .slice none 0 0],fun _=>False,rfl,dr.zero _ _,fun b h=>h.elim⟩
 ·have hps2:cq l=(ft,y,z):=by unfold cq;rw[if_pos (by rw[hz];exact hz0),hy,hz]
  refine Zm ?_;refine Zx ?_;refine Zx ?_;refine Za ?_;refine Za ?_;refine ba 0 2 3 4 5 6 7 (aI (aj ?_));refine Zm ?_;refine Zv ((aa.fh rfl rfl rfl).iC (hz0)) ?_;refine Zm ?_;refine Seq.pa rfl rfl rfl rfl rfl rfl ?_;refine Seq.pa rfl rfl rfl rfl rfl rfl ?_;refine Seq.pa rfl rfl rfl rfl rfl rfl ?_;refine Zv (aa.bq rfl rfl rfl) ?_;refine cB 0 2 3 4 5 6 7 20 (Zt ?_);refine Cd.aM rfl rfl ?_;refine Cd.skip (aI (aj ?_));refine Zm ?_;refine sJ ?_;refine dY 0 2 3 4 5 6 7 20 22 (Zt ?_);refine Cd.aU rfl (by simpa using hz0) ?_;refine aj ?_;refine Zv (aa.build rfl rfl (dP _)) ?_;refine Zm ?_;refine Zm ?_;refine Zo 4 k2 ?_;intro w3 pw3;replace ab:=ab.put k2 pw3 e2;replace k2:=pw3.an;refine Za ?_;refine Za ?_;refine dY 0 2 3 4 5 6 7 20 22 (Zt (Cd.ret (ae.af ?_)));refine ae.nB rfl rfl rfl rfl k2 Tryz.underlying71 rfl (m:=4) (by kernel_rfl) rfl (.inl rfl) ?_;rw[hps2];exact⟨ab, .agg #[.int .i64 0, .string (strOf []), .slice none 0 0, .slice none 0 0],fun _=>False,rfl,dr.zero _ _,fun b h=>h.elim⟩
def mP (c:Nat):Prop:=c≠32∧c≠9∧c≠10∧c≠35
theorem gO:∀(l:List Nat) (b:Bool) (c:Nat),l[ei l b]? =some c→mP c
 | [],b,c,h=>by simp at h
 |d::l,true,c,h=>by
  rw[vk] at h;split at h
  ·exact gO l false c (by simpa using h)
  ·exact gO l true c (by simpa using h)
 |d::l,false,c,h=>by
  rw[qW] at h
  by_cases hb:fS d=true
  ·rw[if_pos hb] at h
   exact gO l false c (by simpa using h)
  ·rw[if_neg hb] at h
   by_cases h35:d=35
   ·rw[if_pos h35] at h
    exact gO l true c (by simpa using h)
   ·rw[if_neg h35] at h
    simp at h;subst h;unfold fS at hb;simp at hb;exact⟨hb.1.1,hb.1.2,hb.2,h35⟩
theorem xv {l:List Nat}{q c:Nat}(h:l[q+bT (l.drop q)]? =some c):mP c:=
 gO (l.drop q) false c (by rw[List.getElem?_drop];exact h)
theorem vW (l:List Nat):∀f p,(∀c,l[p]? =some c→mP c)→(∀x∈(gD f l p).1,∃c,l[x.pos]? =some c∧mP c)∧∀q,(gD f l p).2=some q→∃c,l[q]? =some c∧mP c
 |0,p,_=>⟨fun x h=>by simp[gD] at h,fun q h=>by simp[gD] at h⟩
 |f+1,p,hp=>by
  rcases Nat.lt_or_ge p l.length with hlt|hge
  ·have hc:l[p]? =some l[p]:=List.getElem?_eq_getElem hlt
   rw[gN f l p hlt]
   cases hn:gZ (l.drop p) with
   |none=>
    exact⟨fun x h=>by simp at h,fun q h=>by injection h with h;subst h;exact⟨_,hc,hp _ hc⟩⟩
   |some z=>
    obtain⟨k,t,n⟩:=z;obtain⟨h1,h2⟩:=vW l f (p+t.length+bT (l.drop (p+t.length))) (fun c h=>xv h);refine⟨fun x h=> ?_,h2⟩;rcases List.mem_cons.1 h with rfl|h
    ·exact⟨_,hc,hp _ hc⟩
    ·exact h1 x h
  ·rw[lQ _ _ _ hge]
   exact⟨fun x h=>by simp at h,fun q h=>by simp at h⟩
theorem qv (l:List Nat):(∀x∈(aP l).1,∃c,l[x.pos]? =some c∧mP c)∧∀q,(aP l).2=some q→∃c,l[q]? =some c∧mP c:=
 vW l (l.length+1) (bT l) fun c h=>gO l false c h
theorem sY (l:List Nat)(p:Nat):endPos l p=l.length∨∃c,l[endPos l p]? =some c∧mP c:=by
 unfold endPos;rw[List.getD_eq_getElem?_getD]
 cases h:(aP l).1[p]? with
 |none=>exact .inl rfl
 |some x=>exact .inr ((qv l).1 x (List.mem_of_getElem? h))
theorem CA {α:Type}(l:List Nat)(r:Rs α):(cv l r=(0,0)∧l.length≤4000)∨(cv l r=(0,4)∧4000<l.length)∨(cv l r=(0,13)∧l.length≤4000)∨
  ∃p,cv l r=(p,11)∧l.length≤4000∧(p=l.length∨∃c,l[p]? =some c∧mP c):=by
 unfold cv
 by_cases h4:4000<l.length
 ·rw[if_pos h4];exact .inr (.inl ⟨rfl,h4⟩)
 ·rw[if_neg h4]
  have h4':l.length≤4000:=by omega
  cases h2:(aP l).2 with
  |some p=>exact .inr (.inr (.inr ⟨p,rfl,h4', .inr ((qv l).2 p h2)⟩))
  |none=>
   cases r with
   |out=>exact .inl ⟨rfl,h4'⟩
   |bad p ov=>
    cases ov with
    |true=>exact .inr (.inr (.inl ⟨rfl,h4'⟩))
    |false=>exact .inr (.inr (.inr ⟨_,rfl,h4',sY l p⟩))
   |ok a p=>
    dsimp only
    by_cases h3:p=(aP l).1.length
    ·rw[if_pos h3];exact .inl ⟨rfl,h4'⟩
    ·rw[if_neg h3];exact .inr (.inr (.inr ⟨_,rfl,h4',sY l p⟩))
theorem Ag (l:List Nat):(∃t,cq l=(t,0,0)∧dK t=true∧l.length≤4000)∨(cq l=(ft,0,4)∧4000<l.length)∨(cq l=(ft,0,13)∧l.length≤4000)∨
  ∃p,cq l=(ft,p,11)∧l.length≤4000∧(p=l.length∨∃c,l[p]? =some c∧mP c):=by
 unfold cq;rcases CA l (gF (aP l).1) with ⟨h,h4⟩|⟨h,h4⟩|⟨h,h4⟩|⟨p,h,h4,hp⟩
 ·rw[h,if_neg (by simp)]
  have hz:∀(z:Tm × Nat × Int),True:=fun _=>trivial
  cases hr:gF (aP l).1 with
  |out=>exact absurd hr (qH _)
  |bad p ov=>
   exfalso;rw[hr] at h;unfold cv at h;rw[if_neg (by omega)] at h
   cases h2:(aP l).2 with
   |some p=>rw[h2] at h;cases h
   |none=>rw[h2] at h;cases ov<;>simp at h
  |ok x q=>
   dsimp only
   by_cases hx:dK x=true
   ·rw[if_pos hx];exact .inl ⟨x,rfl,hx,h4⟩
   ·rw[if_neg hx];exact .inr (.inr (.inl ⟨rfl,h4⟩))
 ·rw[h,if_pos (by simp)];exact .inr (.inl ⟨rfl,h4⟩)
 ·rw[h,if_pos (by simp)];exact .inr (.inr (.inl ⟨rfl,h4⟩))
 ·rw[h,if_pos (by simp)];exact .inr (.inr (.inr ⟨p,rfl,h4,hp⟩))
section
variable {α β:Type} {ws:List Wd} {j:Nat}
theorem map_fst (k:Nat)(f f':Nat→Nat→Rs α):(List.replicate k (f,f')).map Prod.fst=List.replicate k f:=by rw[List.map_replicate]
theorem map_snd (k:Nat)(f f':Nat→Nat→Rs α):(List.replicate k (f,f')).map Prod.snd=List.replicate k f':=by rw[List.map_replicate]
end
section
variable {α β:Type} {ws:List Wd}
def Le (r r':Rs α):Prop:=r≠ .out→r'=r
theorem Le.refl (r:Rs α):Le r r:=fun _=>rfl
theorem Le.bind {r r':Rs α}{f f':α→Nat→Rs β}(h:Le r r')(hf:∀a p,Le (f a p) (f' a p)):Le (r.bind f) (r'.bind f'):=fun hne=>by
 have h1:=h (Rs.fD hne);rw[h1]
 cases r with
 |out=>rfl
 |bad p o=>rfl
 |ok a p=>exact hf a p hne
def sL (f f':Nat→Nat→Rs α):Prop:=∀p d,Le (f p d) (f' p d)
theorem uu:∀(M:List ((Nat→Nat→Rs α) × (Nat→Nat→Rs α))),(∀x∈M,sL x.1 x.2)→∀first p d,Le (bl ws (M.map Prod.fst) first p d) (bl ws (M.map Prod.snd) first p d)
 | [],_,first,p,d=>Le.refl _
 |x::M,hM,first,p,d=>by
  rw[List.map_cons,List.map_cons,bl,bl];refine(Le.refl _).bind fun u p1=> ?_;refine(hM x (by simp) p1 d).bind fun y p2=> ?_;exact(uu M (fun z hz=>hM z (by simp[hz])) false p2 d).bind fun ys p3=>Le.refl _
theorem oB (M:List ((Nat→Nat→Rs α) × (Nat→Nat→Rs α)))(hM:∀x∈M,sL x.1 x.2):sL (aT ws (M.map Prod.fst)) (aT ws (M.map Prod.snd)):=fun p d=>by
 unfold aT;refine(Le.refl _).bind fun u p1=> ?_;refine(Le.refl _).bind fun u2 p2=> ?_;refine(uu M hM true p2 (d+1)).bind fun xs p3=> ?_;exact Le.refl _
theorem oJ {E0 E0':Nat→Nat→Rs Ex}(hE:sL E0 E0')(op:Int)(k p d:Nat):Le (bV ws E0 op k p d) (bV ws E0' op k p d):=by
 unfold bV;have:=oB (ws:=ws) (List.replicate k (E0,E0')) (fun x hx=>by rw[(List.mem_replicate.1 hx).2];exact hE) (p+1) d;rw[map_fst,map_snd] at this;exact this.bind fun xs q=>Le.refl _
theorem Ed {E0 E0':Nat→Nat→Rs Ex}(hE:sL E0 E0'):sL (fm ws E0) (fm ws E0'):=fun p d=>by
 unfold fm;split
 ·exact Le.refl _
 split
 ·exact Le.refl _
 split
 ·split
  ·exact Le.refl _
  split
  ·exact oJ hE 9 2 p d
  split
  ·exact oJ hE 10 2 p d
  split
  ·exact oJ hE 21 3 p d
  exact Le.refl _
 split
 ·exact(oB (ws:=ws) [(E0,E0')] (fun x hx=>by rw[List.mem_singleton.1 hx];exact hE) p d).bind fun xs q=>Le.refl _
 exact Le.refl _
theorem vh {S S':Nat→Nat→Rs Ex}(hS:sL S S')(op:Int):sL (dz S op) (dz S' op):=fun p d=>by
 unfold dz;refine(Le.refl _).bind fun u p1=> ?_;exact(hS _ _).bind fun x q=>Le.refl _
theorem CC {S S' E0 E0':Nat→Nat→Rs Ex}(hS:sL S S')(hE:sL E0 E0'):sL (bD ws S E0) (bD ws S' E0'):=fun p d=>by
 unfold bD;split
 ·exact vh hS 19 p d
 split
 ·exact vh hS 20 p d
 exact Ed hE p d
structure GJ (f f':PF):Prop where
 E:∀lvl,sL (f.E lvl) (f'.E lvl)
 L:∀lvl x p d,Le (f.L lvl x p d) (f'.L lvl x p d)
 S:sL f.S f'.S
theorem DN {f f':PF}(h:GJ f f')(lvl:Nat)(x:Ex)(p d:Nat):Le (dI ws f lvl x p d) (dI ws f' lvl x p d):=by
 unfold dI
 cases opAt ws lvl p with
 |none=>exact Le.refl _
 |some op=>
  refine(h.E (lvl+1) (p+1) d).bind fun r q=> ?_;split
  ·exact Le.refl _
  ·exact h.L _ _ _ _
theorem Ct {L L':Nat→Ex→Nat→Nat→Rs Ex}{S S':Nat→Nat→Rs Ex}(hL:∀lvl x p d,Le (L lvl x p d) (L' lvl x p d))(hS:sL S S'):∀i,sL (lH L S i) (lH L' S' i)
 |0=>hS
 |i+1=>fun p d=>by
  rw[lH,lH];exact(Ct hL hS i p d).bind fun x q=>hL _ _ _ _
theorem nE (ws:List Wd):∀n,GJ (bH ws n) (bH ws (n+1))
 |0=>⟨fun lvl p d h=>absurd rfl h,fun lvl x p d h=>absurd rfl h,fun p d h=>absurd rfl h⟩
 |n+1=>by
  have ih:=nE ws n;have hL:=DN (ws:=ws) ih;have hS:=CC (ws:=ws) ih.S (ih.E 0);exact⟨fun lvl=>Ct hL hS _,hL,hS⟩
end
def cg (ws:List Wd):PF:=bH ws (ws.length+1)
def nF (ws:List Wd):Nat→Nat→Rs Tm:=ja ws (ws.length+1)
theorem qz (ws:List Wd):E7 (cg ws) 0:=ox ws ws.length 0 (by omega)
theorem jT (ws:List Wd):yO (cg ws):=gM ws _
theorem BJ (ws:List Wd)(lvl:Nat)(x:Ex)(p d:Nat):(cg ws).L lvl x p d=dI ws (cg ws) lvl x p d:=((nE ws (ws.length+1)).L lvl x p d ((qz ws).L lvl x p d (Nat.zero_le _))).symm
theorem Fa (ws:List Wd)(p d:Nat):(cg ws).S p d=bD ws (cg ws).S ((cg ws).E 0) p d:=((nE ws (ws.length+1)).S p d ((qz ws).S p d (Nat.zero_le _))).symm
theorem Fu (ws:List Wd)(lvl p d:Nat)(h:lvl<5):(cg ws).E lvl p d=((cg ws).E (lvl+1) p d).bind fun x p=>(cg ws).L lvl x p d:=yD ws ws.length lvl p d h
theorem Di (ws:List Wd)(p d:Nat):(cg ws).E 5 p d=(cg ws).S p d:=rfl
theorem Rs.vZ {α:Type}(r:Rs α):r.bind (fun x q=> .ok x q)=r:=by cases r<;>rfl
def yN (f:PF)(lvl:Nat):Nat→Ex→Nat→Nat→Rs Ex
 |0,x,p,_=> .ok x p
 |k+1,x,p,d=>(f.L (lvl+k) x p d).bind fun y q=>yN f lvl k y q d
theorem uj (f:PF)(lvl:Nat):∀k x p d,yN f lvl (k+1) x p d=(yN f (lvl+1) k x p d).bind fun y q=>f.L lvl y q d
 |0,x,p,d=>by
  show(f.L (lvl+0) x p d).bind (fun y q=>Rs.ok y q)=_;rw[Rs.vZ];rfl
 |k+1,x,p,d=>by
  rw[yN]
  have:(fun y q=>yN f lvl (k+1) y q d)=fun y q=>(yN f (lvl+1) k y q d).bind fun y q=>f.L lvl y q d:=by
   funext y q
   exact uj f lvl k y q d
  rw[this,←Rs.bind_assoc,show lvl+(k+1)=lvl+1+k by omega];rfl
theorem yP (ws:List Wd)(p d:Nat):∀k lvl,lvl+k=5→(cg ws).E lvl p d=((cg ws).S p d).bind fun x q=>yN (cg ws) lvl k x q d
 |0,lvl,h=>by
  obtain rfl:lvl=5:=by omega
  rw[Di];exact(Rs.vZ _).symm
 |k+1,lvl,h=>by
  rw[Fu ws lvl p d (by omega),yP ws p d k (lvl+1) (by omega),Rs.bind_assoc];congr 1
  funext x q
  exact(uj _ _ _ _ _ _).symm
def tU (t:List Nat):Option (Nat × Int):=
 if t=[124] then some (0,18) else if t=[38] then some (1,17) else if t=[60] then some (2,11) else if t=[60,61] then some (2,12) else if t=[61] then some (2,13) else if t=[33,61] then some (2,14)
 else if t=[62,61] then some (2,15) else if t=[62] then some (2,16) else if t=[43] then some (3,5) else if t=[45] then some (3,6) else if t=[42] then some (4,7) else if t=[47] then some (4,8) else none
def lX (ws:List Wd)(p:Nat):Option (Nat × Int):=if(dn ws p).kind=0 then tU (dn ws p).text else none
def Bk:List (List Nat):=[[124],[38],[60],[60,61],[61],[33,61],[62,61],[62],[43],[45],[42],[47]]
def GU (lvl:Nat)(t:List Nat):Option Int:=match tU t with
 |some (i,op)=>if i=lvl then some op else none
 |none=>none
theorem EX:∀lvl,lvl<5→∀t∈Bk,(if t∈cK lvl then(iu lvl)[(cK lvl).idxOf t]? else none)=GU lvl t:=by decide+kernel
theorem y7:∀lvl,lvl<5→∀t∈cK lvl,t∈Bk:=by decide+kernel
theorem Az {t:List Nat}(h:t∉Bk):tU t=none:=by
 unfold Bk at h;simp only[List.mem_cons,List.not_mem_nil,or_false,not_or] at h;unfold tU;simp[h]
theorem rp (ws:List Wd)(lvl p:Nat)(h:lvl<5):opAt ws lvl p=match lX ws p with
 |some (i,op)=>if i=lvl then some op else none
 |none=>none:=by
 unfold opAt lX
 by_cases hk:(dn ws p).kind=0
 ·rw[if_neg (by simp[hk]),if_pos hk]
  generalize (dn ws p).text=t
  by_cases ht:t∈Bk
  ·exact EX lvl h t ht
  ·rw[Az ht,if_neg (fun h2=>ht (y7 lvl h t h2))]
 ·rw[if_pos (by simpa using hk),if_neg hk]
theorem vL (ws:List Wd)(lvl:Nat){p:Nat}:∀k x d,lvl+k≤5→(∀i op,lX ws p=some (i,op)→i<lvl∨lvl+k≤i)→yN (cg ws) lvl k x p d= .ok x p
 |0,x,d,_,_=>rfl
 |k+1,x,d,hk,h=>by
  rw[yN,BJ]
  have ho:opAt ws (lvl+k) p=none:=by
   rw[rp ws (lvl+k) p (by omega)]
   cases hp:lX ws p with
   |none=>rfl
   |some z=>
    obtain⟨i,op⟩:=z;have:=h i op hp;dsimp only;rw[if_neg (by omega)]
  unfold dI;rw[ho];exact vL ws lvl k x d (by omega) fun i op hp=>by have:=h i op hp;have h2:=rp ws (lvl+k) p (by omega);rw[ho,hp] at h2;dsimp only at h2;split at h2;cases h2;omega
theorem uO (ws:List Wd)(lvl:Nat){p i:Nat}{op:Int}(hp:lX ws p=some (i,op)):∀k x d,lvl+k≤5→lvl≤i→i<lvl+k→yN (cg ws) lvl k x p d=((cg ws).E (i+1) (p+1) d).bind fun r q=>yN (cg ws) lvl (if i=2 then 2-lvl else i-lvl+1) (tZ op x r) q d
 |0,x,d,_,h1,h2=>by omega
 |k+1,x,d,hk,h1,h2=>by
  rw[yN,BJ];unfold dI;have ho:=rp ws (lvl+k) p (by omega);rw[hp] at ho;dsimp only at ho
  by_cases hi:i=lvl+k
  ·rw[if_pos hi] at ho
   rw[ho];dsimp only;rw[Rs.bind_assoc,←hi];congr 1
   funext r q
   by_cases h3:i=2
   ·rw[if_pos h3,if_pos h3,show k=2-lvl by omega]
    rfl
   ·rw[if_neg h3,if_neg h3,show i-lvl+1=k+1 by omega,yN,hi]
  ·rw[if_neg hi] at ho
   rw[ho];exact uO ws lvl hp k x d (by omega) h1 (by omega)
structure SW (K:Ctx)(w:World)(p:Nat)(o:Int)(dp bd:Bool):Prop where
 an:aH w K.g 183 #[.slice K.A K.ws.length K.c, .int .i64 (p:Int), .int .i64 o, .bool dp, .bool bd]
 rd:Reads w K.B 4 K.A K.ws.length (dg K.ws)
 bJ:p≤K.ws.length
 ko:0≤o∧o≤1000
 le:K.B≤K.g
theorem SW.step {K:Ctx}{w w':World}{p:Nat}{o:Int}{dp bd:Bool}(h:SW K w p o dp bd)(hb:Below w.heap.size w w'):SW K w' p o dp bd:=⟨h.an.step hb,h.rd.below (hb.mono (by have:=h.an.lt;have:=h.le;omega)),h.bJ,h.ko,h.le⟩
theorem SW.put {K:Ctx}{w w':World}{p g:Nat}{o:Int}{dp bd:Bool}{T:TypeId}{cur cs:Array Value}{E:Prop}(h:SW K w p o dp bd)(k:aH w g T cur)(pw:lu w w' g T cs)(_e:E)(hne:K.g<g:=by omega):SW K w' p o dp bd:=⟨h.an.put pw (by omega),h.rd.below (pw.below (by have:=h.le;omega) k.lt),h.bJ,h.ko,h.le⟩
theorem SW.to {K:Ctx}{w W:World}{h0 p:Nat}{o:Int}{dp bd:Bool}(h:SW K w p o dp bd)(hK:K.B≤K.g)(ab:Fz h0 K.g w W){p':Nat}{o':Int}{dp' bd':Bool}(hb:aH W K.g 183 #[.slice K.A K.ws.length K.c, .int .i64 (p':Int), .int .i64 o', .bool dp', .bool bd']) (hp:p'≤K.ws.length) (ho:0≤o'∧o'≤1000) (hh:K.B≤h0:=by omega):SW K W p' o' dp' bd':=
 ⟨hb,h.rd.below (ab.below hh hK),hp,ho,hK⟩
def gX (ws:List Wd)(p:Nat)(bd:Bool)(k:Int):List Nat:=if bd=true then [] else if(dn ws p).kind=k then(dn ws p).text else []
theorem uT {ws:List Wd}{p:Nat}{x:Wd}(h:ws[p]? =some x):dn ws p=x:=by unfold dn;rw[List.getD_eq_getElem?_getD,h];rfl
theorem lI {ws:List Wd}{p:Nat}(h:ws.length≤p):dn ws p=⟨-1,[],0,0⟩:=by unfold dn;rw[List.getD_eq_getElem?_getD,List.getElem?_eq_none h];rfl
theorem Ctx.Ok.dn {K:Ctx}(hK:K.Ok)(p:Nat):bm (dn K.ws p).kind∧bm (dn K.ws p).n∧(∀c∈(dn K.ws p).text,c<256)∧(dn K.ws p).text.length≤4000:=by
 obtain⟨a1,a2,a3,a4,a5⟩:=hK.at_ p;obtain⟨b1,b2,b3⟩:=K.kj p;rw[←b1,←b2,←b3];exact⟨a1,a2,a3,a4⟩
theorem pY {K:Ctx}(hK:K.Ok)(p:Nat)(bd:Bool)(k:Int):∀c∈gX K.ws p bd k,c<256:=by
 unfold gX;split
 ·simp
 split
 ·exact(hK.dn p).2.2.1
 ·simp
theorem nT (K:Ctx)(hK:K.Ok)(p:Nat)(o:Int)(dp bd:Bool)(k:Int)(w:World)(h:SW K w p o dp bd)(hk:0≤k):Calls Tryz.prog 156 #[.pointer (some ⟨K.g,0,none⟩), .int .i64 k] w fun e w'=>e= .returned (.string (strOf (gX K.ws p bd k)))∧Grow w w':=by
 have ab:=Below.refl w.heap.size w;have k99:=h.an;have hrd:=h.rd;have hlt:=h.an.lt;have hBg:=hK.le;have hpl:=h.bJ;refine Zs 47 Tryz.func156 ?_;refine aj ?_;refine Za ?_;refine bn 0 1 4 (aI (Cd.seq ?_))
 cases bd with
 |true=>
  refine ff 31 ?_;intro w1 hw1 zw1;replace ab:=ab.step hw1;replace k99:=k99.step hw1;have zbel:=ab.size;have zlt:=k99.lt;refine cf ?_;refine Zd (fun w hG=>aa.nilCheck rfl rfl) ?_;refine eV 4 Tryz.underlying183 ?_;refine dZ Tryz.underlying4 k99 ?_;refine cf ?_;refine dm ?_;refine dm ?_;refine dm ?_;refine dm ?_;refine dm ?_;refine dm ?_;refine dm ?_;refine dm ?_;refine dm ?_;refine dm ?_;refine Zd (fun w hG=>aa.cQ rfl rfl rfl) ?_;refine cf ?_;refine dm ?_;refine dm ?_;refine dm ?_;refine dm ?_;refine dm ?_;refine dm ?_;refine dm ?_;refine dm ?_;refine dm ?_;refine dm ?_;refine dm ?_;refine dm ?_;refine dm ?_;refine Zd (fun w hG=>aa.cQ rfl rfl rfl) ?_;refine Dr.nil ?_;refine bb.done (F':=[(0,_),(1,_),(4,_),(35,_)]) rfl ⟨rfl,rfl,rfl,rfl,trivial⟩ ?_;intro w2 hw2 fw2;replace ab:=ab.step hw2;replace k99:=k99.step hw2;refine aQ 0 1 4 35 (Zt ?_);refine Cd.aU rfl rfl ?_;refine aj ?_;refine Za ?_;refine aQ 0 1 4 35 (Zt (Cd.ret (ae.af ?_)));refine aZ ?_;exact⟨rfl,ab⟩
 |false=>
  have hq:gX K.ws p false k=if(dn K.ws p).kind=k then(dn K.ws p).text else []:=rfl;rcases Nat.lt_or_ge p K.ws.length with hp|hp
  ·obtain⟨ad,hA,hadb,hcell⟩:=hrd.2 (by omega)
   obtain⟨x,hx⟩:∃x,K.ws[p]? =some x:=⟨_,List.getElem?_eq_getElem (by omega)⟩;have hat:=uT hx
   have hce:∀W,Below w.heap.size w W→∀(q:Nat) (u:Value),([.int .i64 x.kind, .string (strOf x.text), .int .i64 x.n, .int .i64 (x.pos:Int)]:List Value)[q]? =some u→W.cell? ((ad.add (p*4)).add q)=some u:=fun W hb q u hu=>by
    rw[(hb.mono (show K.B≤w.heap.size by omega)).cell (by rw[av,av];exact hadb),gd];exact hcell _ _ (ia K.ws p x hx q u hu)
   rw[hA] at k99;rw[hq,hat]
   by_cases hc:x.kind=k
   ·rw[if_pos hc]
    refine ff 31 ?_;intro w1 hw1 zw1;replace ab:=ab.step hw1;replace k99:=k99.step hw1;have zbel:=ab.size;have zlt:=k99.lt;refine cf ?_;refine Zd (fun w hG=>aa.nilCheck rfl rfl) ?_;refine eV 4 Tryz.underlying183 ?_;refine dZ Tryz.underlying4 k99 ?_;refine cf ?_;refine cn (fun w hG=>aa.move rfl rfl) ?_;refine cn (fun w hG=>aa.nilCheck rfl rfl) ?_;refine cn (fun w hG=>aa.ar 1 rfl rfl Tryz.underlying183 rfl (by kernel_rfl)) ?_;refine cn (fun w hG=>aa.au rfl rfl Tryz.underlying3 rfl (k99.step hG) rfl) ?_;refine cn (fun w hG=>aa.move rfl rfl) ?_;refine cn (fun w hG=>aa.nilCheck rfl rfl) ?_;refine cn (fun w hG=>aa.ar 0 rfl rfl Tryz.underlying183 rfl (by kernel_rfl)) ?_;refine cn (fun w hG=>aa.au rfl rfl Tryz.underlying178 rfl (k99.step hG) rfl) ?_;refine cn (fun w hG=>aa.len rfl rfl Tryz.underlying178) ?_;refine cn (fun w hG=>(aa.geq rfl rfl rfl).iC (by omega)) ?_;refine Zd (fun w hG=>aa.bq rfl rfl rfl) ?_;refine cf ?_;refine cn (fun w hG=>aa.move rfl rfl) ?_;refine cn (fun w hG=>aa.nilCheck rfl rfl) ?_;refine cn (fun w hG=>aa.ar 0 rfl rfl Tryz.underlying183 rfl (by kernel_rfl)) ?_;refine cn (fun w hG=>aa.au rfl rfl Tryz.underlying178 rfl (k99.step hG) rfl) ?_;refine cn (fun w hG=>aa.move rfl rfl) ?_;refine cn (fun w hG=>aa.nilCheck rfl rfl) ?_;refine cn (fun w hG=>aa.ar 1 rfl rfl Tryz.underlying183 rfl (by kernel_rfl)) ?_;refine cn (fun w hG=>aa.au rfl rfl Tryz.underlying3 rfl (k99.step hG) rfl) ?_;refine cn (fun w hG=>aa.bI rfl rfl rfl Tryz.underlying178 (s:=4) (by kernel_rfl) (j:=p) rfl (by omega)) ?_;refine cn (fun w hG=>aa.gx 0 rfl rfl Tryz.underlying211 rfl (by kernel_rfl)) ?_;refine cn (fun w hG=>aa.jh rfl rfl Tryz.underlying3 rfl (hce _ (ab.step hG) 0 _ rfl)) ?_;refine cn (fun w hG=>aa.move rfl rfl) ?_;refine cn (fun w hG=>(aa.cW rfl rfl rfl).iC (fun h=>h hc)) ?_;refine Zd (fun w hG=>aa.bq rfl rfl rfl) ?_;refine Dr.nil ?_;refine bb.done (F':=[(0,_),(1,_),(4,_),(35,_)]) rfl ⟨rfl,rfl,rfl,rfl,trivial⟩ ?_;intro w2 hw2 fw2;replace ab:=ab.step hw2;replace k99:=k99.step hw2;refine aQ 0 1 4 35 (Zt ?_);refine Cd.aM rfl rfl ?_;refine Cd.skip (aI ?_);refine Cd.eB (F':=[(0,_),(1,_),(35,_)]) ⟨rfl,rfl,rfl,trivial⟩ ?_;refine ff 12 ?_;intro w3 hw3 zw3;replace ab:=ab.step hw3;replace k99:=k99.step hw3;have zbel:=ab.size;have zlt:=k99.lt;refine cf ?_;refine Zd (fun w hG=>aa.nilCheck rfl rfl) ?_;refine eV 0 Tryz.underlying183 ?_;refine dZ Tryz.underlying178 k99 ?_;refine cf ?_;refine Zd (fun w hG=>aa.nilCheck rfl rfl) ?_;refine eV 1 Tryz.underlying183 ?_;refine dZ Tryz.underlying3 k99 ?_;refine Zd (fun w hG=>aa.bI rfl rfl rfl Tryz.underlying178 (s:=4) (by kernel_rfl) (j:=p) rfl (by omega)) ?_;refine Zd (fun w hG=>aa.gx 1 rfl rfl Tryz.underlying211 rfl (by kernel_rfl)) ?_;refine Zd (fun w hG=>aa.jh rfl rfl Tryz.underlying9 rfl (hce _ (ab.step hG) 1 _ rfl)) ?_;refine Zd (fun w hG=>aa.assign rfl rfl) ?_;refine Dr.nil ?_;refine bb.done (F':=[(0,_),(1,_),(4,_),(35,_)]) rfl ⟨rfl,rfl,rfl,rfl,trivial⟩ ?_;intro w4 hw4 fw4;replace ab:=ab.step hw4;replace k99:=k99.step hw4;refine aQ 0 1 4 35 (Zt (Cd.ret ?_));refine aZ ?_;exact⟨rfl,ab⟩
   ·rw[if_neg hc]
    refine ff 31 ?_;intro w1 hw1 zw1;replace ab:=ab.step hw1;replace k99:=k99.step hw1;have zbel:=ab.size;have zlt:=k99.lt;refine cf ?_;refine Zd (fun w hG=>aa.nilCheck rfl rfl) ?_;refine eV 4 Tryz.underlying183 ?_;refine dZ Tryz.underlying4 k99 ?_;refine cf ?_;refine cn (fun w hG=>aa.move rfl rfl) ?_;refine cn (fun w hG=>aa.nilCheck rfl rfl) ?_;refine cn (fun w hG=>aa.ar 1 rfl rfl Tryz.underlying183 rfl (by kernel_rfl)) ?_;refine cn (fun w hG=>aa.au rfl rfl Tryz.underlying3 rfl (k99.step hG) rfl) ?_;refine cn (fun w hG=>aa.move rfl rfl) ?_;refine cn (fun w hG=>aa.nilCheck rfl rfl) ?_;refine cn (fun w hG=>aa.ar 0 rfl rfl Tryz.underlying183 rfl (by kernel_rfl)) ?_;refine cn (fun w hG=>aa.au rfl rfl Tryz.underlying178 rfl (k99.step hG) rfl) ?_;refine cn (fun w hG=>aa.len rfl rfl Tryz.underlying178) ?_;refine cn (fun w hG=>(aa.geq rfl rfl rfl).iC (by omega)) ?_;refine Zd (fun w hG=>aa.bq rfl rfl rfl) ?_;refine cf ?_;refine cn (fun w hG=>aa.move rfl rfl) ?_;refine cn (fun w hG=>aa.nilCheck rfl rfl) ?_;refine cn (fun w hG=>aa.ar 0 rfl rfl Tryz.underlying183 rfl (by kernel_rfl)) ?_;refine cn (fun w hG=>aa.au rfl rfl Tryz.underlying178 rfl (k99.step hG) rfl) ?_;refine cn (fun w hG=>aa.move rfl rfl) ?_;refine cn (fun w hG=>aa.nilCheck rfl rfl) ?_;refine cn (fun w hG=>aa.ar 1 rfl rfl Tryz.underlying183 rfl (by kernel_rfl)) ?_;refine cn (fun w hG=>aa.au rfl rfl Tryz.underlying3 rfl (k99.step hG) rfl) ?_;refine cn (fun w hG=>aa.bI rfl rfl rfl Tryz.underlying178 (s:=4) (by kernel_rfl) (j:=p) rfl (by omega)) ?_;refine cn (fun w hG=>aa.gx 0 rfl rfl Tryz.underlying211 rfl (by kernel_rfl)) ?_;refine cn (fun w hG=>aa.jh rfl rfl Tryz.underlying3 rfl (hce _ (ab.step hG) 0 _ rfl)) ?_;refine cn (fun w hG=>aa.move rfl rfl) ?_;refine cn (fun w hG=>(aa.cW rfl rfl rfl).lK (hc)) ?_;refine Zd (fun w hG=>aa.bq rfl rfl rfl) ?_;refine Dr.nil ?_;refine bb.done (F':=[(0,_),(1,_),(4,_),(35,_)]) rfl ⟨rfl,rfl,rfl,rfl,trivial⟩ ?_;intro w2 hw2 fw2;replace ab:=ab.step hw2;replace k99:=k99.step hw2;refine aQ 0 1 4 35 (Zt ?_);refine Cd.aU rfl rfl ?_;refine aj ?_;refine Za ?_;refine aQ 0 1 4 35 (Zt (Cd.ret (ae.af ?_)));refine aZ ?_;exact⟨rfl,ab⟩
  ·rw[hq,lI hp,if_neg (show¬(-1:Int)=k by omega)]
   refine ff 31 ?_;intro w1 hw1 zw1;replace ab:=ab.step hw1;replace k99:=k99.step hw1;have zbel:=ab.size;have zlt:=k99.lt;refine cf ?_;refine Zd (fun w hG=>aa.nilCheck rfl rfl) ?_;refine eV 4 Tryz.underlying183 ?_;refine dZ Tryz.underlying4 k99 ?_;refine cf ?_;refine cn (fun w hG=>aa.move rfl rfl) ?_;refine cn (fun w hG=>aa.nilCheck rfl rfl) ?_;refine cn (fun w hG=>aa.ar 1 rfl rfl Tryz.underlying183 rfl (by kernel_rfl)) ?_;refine cn (fun w hG=>aa.au rfl rfl Tryz.underlying3 rfl (k99.step hG) rfl) ?_;refine cn (fun w hG=>aa.move rfl rfl) ?_;refine cn (fun w hG=>aa.nilCheck rfl rfl) ?_;refine cn (fun w hG=>aa.ar 0 rfl rfl Tryz.underlying183 rfl (by kernel_rfl)) ?_;refine cn (fun w hG=>aa.au rfl rfl Tryz.underlying178 rfl (k99.step hG) rfl) ?_;refine cn (fun w hG=>aa.len rfl rfl Tryz.underlying178) ?_;refine cn (fun w hG=>(aa.geq rfl rfl rfl).lK (by omega)) ?_;refine Zd (fun w hG=>aa.bq rfl rfl rfl) ?_;refine cf ?_;refine dm ?_;refine dm ?_;refine dm ?_;refine dm ?_;refine dm ?_;refine dm ?_;refine dm ?_;refine dm ?_;refine dm ?_;refine dm ?_;refine dm ?_;refine dm ?_;refine dm ?_;refine Zd (fun w hG=>aa.cQ rfl rfl rfl) ?_;refine Dr.nil ?_;refine bb.done (F':=[(0,_),(1,_),(4,_),(35,_)]) rfl ⟨rfl,rfl,rfl,rfl,trivial⟩ ?_;intro w2 hw2 fw2;replace ab:=ab.step hw2;replace k99:=k99.step hw2;refine aQ 0 1 4 35 (Zt ?_);refine Cd.aU rfl rfl ?_;refine aj ?_;refine Za ?_;refine aQ 0 1 4 35 (Zt (Cd.ret (ae.af ?_)));refine aZ ?_;exact⟨rfl,ab⟩
def et (ws:List Wd)(s:List Nat)(p:Nat)(bd:Bool):Nat × Bool:=if bd=false∧rW ws p s=true then(p+1,false) else(p,true)
theorem vn {ws:List Wd}{p:Nat}{bd:Bool}{s:List Nat}(hs:s≠ []):gX ws p bd 0=s↔bd=false∧rW ws p s=true:=by
 unfold gX rW
 cases bd with
 |true=>
  rw[if_pos rfl];exact⟨fun h=>absurd h.symm hs,fun h=>by cases h.1⟩
 |false=>
  rw[if_neg (by simp)]
  by_cases hk:(dn ws p).kind=0
  ·rw[if_pos hk];simp[hk]
  ·rw[if_neg hk]
   exact⟨fun h=>absurd h.symm hs,fun h=>by simp[hk] at h⟩
theorem ET {ws:List Wd}{p:Nat}{s:List Nat}(h:rW ws p s=true):p<ws.length:=by
 rcases Nat.lt_or_ge p ws.length with hp|hp
 ·exact hp
 ·unfold rW at h
  rw[lI hp] at h;simp at h
theorem gE (K:Ctx)(hK:K.Ok)(p:Nat)(o:Int)(dp bd:Bool)(s:List Nat)(w:World)(h:SW K w p o dp bd)(hs:∀x∈s,x<256)(hne:s≠ []):Calls Tryz.prog 157 #[.pointer (some ⟨K.g,0,none⟩), .string (strOf s)] w fun e w'=>(∃v,e= .returned v)∧Fz w.heap.size K.g w w'∧SW K w' (et K.ws s p bd).1 o dp (et K.ws s p bd).2:=by
 have ab:=Fz.refl w.heap.size K.g w;have k99:=h.an;have e99:K.g=K.g:=rfl;have hlt:=h.an.lt;have hle:=hK.le;have hpl:=h.bJ;have hlen:=hK.len;have htx:=nT K hK p o dp bd 0 w h (by omega);have htl:=pY hK p bd 0;refine Zs 18 Tryz.func157 ?_;refine Cd.seq (aj ?_);refine Zm ?_;refine Zc (Ze Tryz.func156) (htx) ?_;rintro e w5 ⟨rfl,hb5⟩;refine⟨_,rfl,?_⟩;replace ab:=ab.step hb5;replace k99:=k99.step hb5;refine Zm ?_;refine Zv (aa.fT rfl rfl rfl htl hs) ?_;refine bn 0 1 7 (Zt ?_);refine Cd.ak rfl (fun hc=> ?_) (fun hc=> ?_)
 ·have hq:et K.ws s p bd=(p,true):=by unfold et;rw[if_neg (fun h=>hc ((vn hne).2 h))]
  refine aj ?_;refine Zm ?_;refine Zv (aa.nilCheck rfl rfl) ?_;refine Zf 4 Tryz.underlying183 ?_;refine Zq k99 ?_;intro w1 pw1;replace ab:=ab.put k99 pw1 e99;replace k99:=pw1.an;refine bn 0 1 7 (Zt (Cd.ret (ae.af ?_)));refine ae.gu rfl (.inl rfl) ?_;rw[hq];exact⟨⟨_,rfl⟩,ab,h.to hle ab k99 hpl h.ko⟩
 ·have hc:=(vn hne).1 (Decidable.not_not.1 hc)
  have hq:et K.ws s p bd=(p+1,false):=by unfold et;rw[if_pos hc]
  have hp:=ET hc.2;obtain rfl:=hc.1;refine Cd.skip (eh ?_);refine Zm ?_;refine Zv (aa.nilCheck rfl rfl) ?_;refine Zf 1 Tryz.underlying183 ?_;refine ZL Tryz.underlying3 k99 ?_;refine cG ?_;refine Zv (aa.nilCheck rfl rfl) ?_;refine Zf 1 Tryz.underlying183 ?_;refine Zq k99 ?_;intro w1 pw1;replace ab:=ab.put k99 pw1 e99;replace k99:=pw1.an;refine bn 0 1 7 ?_;refine ae.gu rfl (.inr rfl) ?_;rw[hq];exact⟨⟨_,rfl⟩,ab,h.to hle ab (by rw[Int.natCast_add];exact k99) (by show p+1≤_;omega) h.ko⟩
theorem ku (K:Ctx)(hK:K.Ok)(p:Nat)(o:Int)(dp bd:Bool)(w:World)(h:SW K w p o dp bd)(ho:o≤900):Calls Tryz.prog 158 #[.pointer (some ⟨K.g,0,none⟩)] w fun e w'=>(∃v,e= .returned v)∧Fz w.heap.size K.g w w'∧SW K w' p (o+1) (if 64<o+1∧bd=false then true else dp) (if 64<o+1∧bd=false then true else bd):=by
 have ab:=Fz.refl w.heap.size K.g w;have k99:=h.an;have e99:K.g=K.g:=rfl;have hlt:=h.an.lt;have hle:=hK.le;have hpl:=h.bJ;have hlen:=hK.len;have hol:=h.ko;refine Zs 27 Tryz.func158 ?_;refine aj ?_;refine Zm ?_;refine Zv (aa.nilCheck rfl rfl) ?_;refine Zf 2 Tryz.underlying183 ?_;refine ZL Tryz.underlying3 k99 ?_;refine cG ?_;refine Zv (aa.nilCheck rfl rfl) ?_;refine Zf 2 Tryz.underlying183 ?_;refine Zq k99 ?_;intro w1 pw1;replace ab:=ab.put k99 pw1 e99;replace k99:=pw1.an;refine EF 0 (aB ?_);refine Zm ?_;refine Zv (aa.nilCheck rfl rfl) ?_;refine Zf 2 Tryz.underlying183 ?_;refine ZL Tryz.underlying3 k99 ?_;refine uV ?_;refine Zm ?_;refine aw.start ?_;refine bw (fun hcx=>aa.move rfl rfl) ?_;refine Zn (fun hcx=>aa.nilCheck rfl rfl) ?_;refine Zn (fun hcx=>aa.ar 4 rfl rfl Tryz.underlying183 rfl (by kernel_rfl)) ?_;refine Zn (fun hcx=>aa.au rfl rfl Tryz.underlying4 rfl k99 rfl) ?_;refine Zn (fun hcx=>aa.not rfl rfl) ?_;refine fQ ?_;refine dF 0 20 (Zt ?_);refine Cd.cond rfl (fun hc=> ?_) (fun hc=> ?_)
 ·have hc:64<o+1∧bd=false:=by simpa using hc
  refine aj ?_;refine Zm ?_;refine Zv (aa.nilCheck rfl rfl) ?_;refine Zf 3 Tryz.underlying183 ?_;refine Zq k99 ?_;intro w2 pw2;replace ab:=ab.put k99 pw2 e99;replace k99:=pw2.an;refine dF 0 20 (eh ?_);refine Zm ?_;refine Zv (aa.nilCheck rfl rfl) ?_;refine Zf 4 Tryz.underlying183 ?_;refine Zq k99 ?_;intro w3 pw3;replace ab:=ab.put k99 pw3 e99;replace k99:=pw3.an;refine dF 0 20 ?_;refine ae.gu rfl (.inr rfl) ?_;rw[if_pos hc,if_pos hc];exact⟨⟨_,rfl⟩,ab,h.to hle ab k99 hpl (by omega)⟩
 ·have hc:¬(64<o+1∧bd=false):=by simpa using hc
  refine Cd.skip ?_;refine ae.gu rfl (.inr rfl) ?_;rw[if_neg hc,if_neg hc];exact⟨⟨_,rfl⟩,ab,h.to hle ab k99 hpl (by omega)⟩
def zk (t:List Nat):Int × Int:=match tU t with
 |some (i,op)=>((i:Int)+1,op)
 |none=>(0,0)
theorem AQ (t:List Nat)(w:World)(ht:∀x∈t,x<256):Calls Tryz.prog 204 #[.string (strOf t)] w fun e w'=>e= .returned (.tuple #[.int .i64 (zk t).1, .int .i64 (zk t).2])∧Grow w w':=by
 have ab:=Below.refl w.heap.size w;refine Zs 29 Tryz.func204 ?_;refine aj ?_;refine Za ?_;refine Za ?_;refine bn 0 2 3 (aI (aj ?_));refine Zm ?_;refine aQ 0 2 3 4 (Zt (Cd.block (aj ?_)));refine Zv (aa.cI (b:=[124]) rfl rfl rfl ht (by decide)) ?_;refine Za ?_;refine aO 0 2 3 4 5 (Zt ?_);refine Cd.ak rfl (fun c0=> ?_) (fun c0=> ?_)
 ·subst c0
  refine aj ?_;refine Za ?_;refine Za ?_;refine aO 0 2 3 4 5 (Zt (Cd.ret (ae.ag (ae.af ?_))));refine dH ?_;exact⟨rfl,ab⟩
 refine aj ?_;refine Zv (aa.cI (b:=[38]) rfl rfl rfl ht (by decide)) ?_;refine Za ?_;refine aY 0 2 3 4 5 7 (Zt ?_);refine Cd.ak rfl (fun c1=> ?_) (fun c1=> ?_)
 ·subst c1
  refine aj ?_;refine Za ?_;refine Za ?_;refine aY 0 2 3 4 5 7 (Zt (Cd.ret (ae.ag (ae.af ?_))));refine dH ?_;exact⟨rfl,ab⟩
 refine aj ?_;refine Zv (aa.cI (b:=[60]) rfl rfl rfl ht (by decide)) ?_;refine Za ?_;refine ba 0 2 3 4 5 7 9 (Zt ?_);refine Cd.ak rfl (fun c2=> ?_) (fun c2=> ?_)
 ·subst c2
  refine aj ?_;refine Za ?_;refine Za ?_;refine ba 0 2 3 4 5 7 9 (Zt (Cd.ret (ae.ag (ae.af ?_))));refine dH ?_;exact⟨rfl,ab⟩
 refine aj ?_;refine Zv (aa.cI (b:=[60,61]) rfl rfl rfl ht (by decide)) ?_;refine Za ?_;refine cB 0 2 3 4 5 7 9 11 (Zt ?_);refine Cd.ak rfl (fun c3=> ?_) (fun c3=> ?_)
 ·subst c3
  refine aj ?_;refine Za ?_;refine Za ?_;refine cB 0 2 3 4 5 7 9 11 (Zt (Cd.ret (ae.ag (ae.af ?_))));refine dH ?_;exact⟨rfl,ab⟩
 refine aj ?_;refine Zv (aa.cI (b:=[61]) rfl rfl rfl ht (by decide)) ?_;refine Za ?_;refine dY 0 2 3 4 5 7 9 11 13 (Zt ?_);refine Cd.ak rfl (fun c4=> ?_) (fun c4=> ?_)
 ·subst c4
  refine aj ?_;refine Za ?_;refine Za ?_;refine dY 0 2 3 4 5 7 9 11 13 (Zt (Cd.ret (ae.ag (ae.af ?_))));refine dH ?_;exact⟨rfl,ab⟩
 refine aj ?_;refine Zv (aa.cI (b:=[33,61]) rfl rfl rfl ht (by decide)) ?_;refine Za ?_;refine dq 0 2 3 4 5 7 9 11 13 15 (Zt ?_);refine Cd.ak rfl (fun c5=> ?_) (fun c5=> ?_)
 ·subst c5
  refine aj ?_;refine Za ?_;refine Za ?_;refine dq 0 2 3 4 5 7 9 11 13 15 (Zt (Cd.ret (ae.ag (ae.af ?_))));refine dH ?_;exact⟨rfl,ab⟩
 refine aj ?_;refine Zv (aa.cI (b:=[62,61]) rfl rfl rfl ht (by decide)) ?_;refine Za ?_;refine dv 0 2 3 4 5 7 9 11 13 15 17 (Zt ?_);refine Cd.ak rfl (fun c6=> ?_) (fun c6=> ?_)
 ·subst c6
  refine aj ?_;refine Za ?_;refine Za ?_;refine dv 0 2 3 4 5 7 9 11 13 15 17 (Zt (Cd.ret (ae.ag (ae.af ?_))));refine dH ?_;exact⟨rfl,ab⟩
 refine aj ?_;refine Zv (aa.cI (b:=[62]) rfl rfl rfl ht (by decide)) ?_;refine Za ?_;refine fY 0 2 3 4 5 7 9 11 13 15 17 19 (Zt ?_);refine Cd.ak rfl (fun c7=> ?_) (fun c7=> ?_)
 ·subst c7
  refine aj ?_;refine Za ?_;refine Za ?_;refine fY 0 2 3 4 5 7 9 11 13 15 17 19 (Zt (Cd.ret (ae.ag (ae.af ?_))));refine dH ?_;exact⟨rfl,ab⟩
 refine aj ?_;refine Zv (aa.cI (b:=[43]) rfl rfl rfl ht (by decide)) ?_;refine Za ?_;refine iq 0 2 3 4 5 7 9 11 13 15 17 19 21 (Zt ?_);refine Cd.ak rfl (fun c8=> ?_) (fun c8=> ?_)
 ·subst c8
  refine aj ?_;refine Za ?_;refine Za ?_;refine iq 0 2 3 4 5 7 9 11 13 15 17 19 21 (Zt (Cd.ret (ae.ag (ae.af ?_))));refine dH ?_;exact⟨rfl,ab⟩
 refine aj ?_;refine Zv (aa.cI (b:=[45]) rfl rfl rfl ht (by decide)) ?_;refine Za ?_;refine jO 0 2 3 4 5 7 9 11 13 15 17 19 21 23 (Zt ?_);refine Cd.ak rfl (fun c9=> ?_) (fun c9=> ?_)
 ·subst c9
  refine aj ?_;refine Za ?_;refine Za ?_;refine jO 0 2 3 4 5 7 9 11 13 15 17 19 21 23 (Zt (Cd.ret (ae.ag (ae.af ?_))));refine dH ?_;exact⟨rfl,ab⟩
 refine aj ?_;refine Zv (aa.cI (b:=[42]) rfl rfl rfl ht (by decide)) ?_;refine Za ?_;refine tS 0 2 3 4 5 7 9 11 13 15 17 19 21 23 25 (Zt ?_);refine Cd.ak rfl (fun c10=> ?_) (fun c10=> ?_)
 ·subst c10
  refine aj ?_;refine Za ?_;refine Za ?_;refine tS 0 2 3 4 5 7 9 11 13 15 17 19 21 23 25 (Zt (Cd.ret (ae.ag (ae.af ?_))));refine dH ?_;exact⟨rfl,ab⟩
 refine aj ?_;refine Zv (aa.cI (b:=[47]) rfl rfl rfl ht (by decide)) ?_;refine Za ?_;refine nM 0 2 3 4 5 7 9 11 13 15 17 19 21 23 25 27 (Zt ?_);refine Cd.ak rfl (fun c11=> ?_) (fun c11=> ?_)
 ·subst c11
  refine aj ?_;refine Za ?_;refine Za ?_;refine nM 0 2 3 4 5 7 9 11 13 15 17 19 21 23 25 27 (Zt (Cd.ret (ae.ag (ae.af ?_))));refine dH ?_;exact⟨rfl,ab⟩
 refine Cd.skip (ae.ah (aB ?_));refine Za ?_;refine Za ?_;refine nM 0 2 3 4 5 7 9 11 13 15 17 19 21 23 25 27 (Zt (Cd.ret ?_));refine dH ?_;have hz:zk t=(0,0):=by unfold zk tU;simp only[if_neg c0,if_neg c1,if_neg c2,if_neg c3,if_neg c4,if_neg c5,if_neg c6,if_neg c7,if_neg c8,if_neg c9,if_neg c10,if_neg c11]
 rw[hz];exact⟨rfl,ab⟩
theorem vb (K:Ctx)(hK:K.Ok)(p:Nat)(o:Int)(dp:Bool)(w:World)(h:SW K w p o dp true):Calls Tryz.prog 203 #[.pointer (some ⟨K.g,0,none⟩)] w fun e w'=>Grow w w'∧e= .returned (.agg #[.int .i64 0, .int .i64 0, .string (strOf []), .slice none 0 0]):=by
 have ab:=Below.refl w.heap.size w;have k99:=h.an;have hlt:=h.an.lt;have hle:=hK.le;refine Zs 170 Tryz.func203 ?_;refine aj ?_;refine Zl az ?_;intro g2 w1 n2;have e2:=Nat.le_trans ab.size n2.ge;have l2:=Nat.lt_of_lt_of_le k99.lt n2.ge;replace ab:=ab.step n2.below;replace k99:=k99.step n2.below;have k2:=n2.an;refine dF 0 2 (aI (aj ?_));refine Zm ?_;refine Zv (aa.nilCheck rfl rfl) ?_;refine Zf 4 Tryz.underlying183 ?_;refine ZL Tryz.underlying4 k99 ?_;refine bn 0 2 9 (Zt ?_);refine Cd.aU rfl rfl ?_;refine aj ?_;refine Zv (aa.build rfl rfl (iD _)) ?_;refine Zo 4 k2 ?_;intro w2 pw2;replace ab:=ab.put k2 pw2 e2;replace k99:=k99.put pw2 (by omega);replace k2:=pw2.an;refine bn 0 2 9 (Zt (Cd.ret (ae.af ?_)));refine gp 4 k2 Tryz.underlying105 ?_;exact⟨ab,rfl⟩
theorem oo (K:Ctx)(hK:K.Ok)(p:Nat)(o:Int)(dp:Bool)(least:Int)(w:World)(h:SW K w p o dp true):Calls Tryz.prog 160 #[.pointer (some ⟨K.g,0,none⟩), .int .i64 least] w fun e w'=>Grow w w'∧e= .returned (.agg #[.int .i64 0, .int .i64 0, .string (strOf []), .slice none 0 0]):=by
 have ab:=Below.refl w.heap.size w;have k99:=h.an;have hlt:=h.an.lt;have hle:=hK.le;have hs:=fun W (hb:Below w.heap.size w W)=>vb K hK p o dp W (h.to hle (Fz.of hb) (h.an.step hb) h.bJ h.ko);refine Zs 56 Tryz.func160 ?_;refine aj ?_;refine Zl az ?_;intro g4 w1 n4;have e4:=Nat.le_trans ab.size n4.ge;have l4:=Nat.lt_of_lt_of_le k99.lt n4.ge;replace ab:=ab.step n4.below;replace k99:=k99.step n4.below;have k4:=n4.an;refine bn 0 1 4 (aB ?_);refine Zm ?_;refine Zc (Ze Tryz.func203) (hs _ ab) ?_;rintro e w9 ⟨hb9,rfl⟩;refine⟨_,rfl,?_⟩;replace ab:=ab.step hb9;replace k99:=k99.step hb9;replace k4:=k4.step hb9;refine Zl az ?_;intro g5 w2 n5;have e5:=Nat.le_trans ab.size n5.ge;have l5:=Nat.lt_of_lt_of_le k4.lt n5.ge;have l5_k99:=Nat.lt_of_lt_of_le k99.lt n5.ge;replace ab:=ab.step n5.below;replace k99:=k99.step n5.below;replace k4:=k4.step n5.below;have k5:=n5.an;refine Zo 4 k5 ?_;intro w3 pw3;replace ab:=ab.put k5 pw3 e5;replace k99:=k99.put pw3 (by omega);replace k4:=k4.put pw3 (by omega);replace k5:=pw3.an;refine aQ 0 1 4 5 (aB ?_);refine Za ?_;refine aO 0 1 4 5 6 (aI (Cd.block ?_));refine Cd.loop (σ:=Unit) (fun _=>[(0, .pointer (some ⟨K.g,0,none⟩)),(4, .pointer (some ⟨g4,0,none⟩)),(5, .pointer (some ⟨g5,0,none⟩))]) (fun _ wr=>Below w.heap.size w wr∧aH wr K.g 183 #[.slice K.A K.ws.length K.c, .int .i64 (p:Int), .int .i64 o, .bool dp, .bool true]∧aH wr g4 105 #[.int .i64 0, .int .i64 0, .string {data:= #[]}, .slice none 0 0]∧aH wr g5 105 #[.int .i64 0, .int .i64 0, .string (strOf []), .slice none 0 0]) (fun _=>0) () ⟨ab,k99,k4,k5⟩ ⟨rfl,rfl,rfl,trivial⟩ ?_;clear ab k99 k4 k5;rintro⟨⟩ wr ⟨ab,k99,k4,k5⟩;refine Cd.seq (aj ?_);refine Zm ?_;refine Zv (aa.nilCheck rfl rfl) ?_;refine Zf 4 Tryz.underlying183 ?_;refine ZL Tryz.underlying4 k99 ?_;refine mD ?_;refine aQ 0 4 5 16 (Zt ?_);refine Cd.aM rfl rfl ?_;refine Cd.exit (ae.aC (ae.aA (ae.ay (aB ?_))));refine ZW 4 Tryz.underlying105 k5 ?_;refine Zo 4 k4 ?_;intro w4 pw4;replace ab:=ab.put k4 pw4 e4;replace k99:=k99.put pw4 (by omega);replace k5:=k5.put pw4 (by omega);replace k4:=pw4.an;refine aQ 0 4 5 16 (Zt (Cd.ret ?_));refine gp 4 k4 Tryz.underlying105 ?_;exact⟨ab,rfl⟩
def CR {α:Type}(K:Ctx)(h:Nat)(w:World)(pf:α→Nat→Int→Bool→Bool→Prop)(okv:α→Value→World→Prop)(e:Ending)(w':World):Prop:=
 Fz h K.g w w'∧∃v x p o dp bd,e= .returned v∧okv x v w'∧SW K w' p o dp bd∧pf x p o dp bd
def eC {α:Type}(r:Rs α)(d:Nat)(x:α)(p:Nat)(o:Int)(dp bd:Bool):Prop:=match r with
 | .out=>False
 | .bad q ov=>p=q∧dp=ov∧bd=true∧(d:Int)≤o∧o≤d+1
 | .ok a q=>x=a∧p=q∧o=d∧dp=false∧bd=false
def uP {α:Type}(p:Nat)(o:Int)(dp:Bool)(_x:α)(p':Nat)(o':Int)(dp' bd':Bool):Prop:=p'=p∧o'=o∧dp'=dp∧bd'=true
structure XC {α:Type}(rE:World→(Nat→Prop)→α→Value→Prop)(K:Ctx)(w1:World)(p:Nat)(o:Int)(dp bd:Bool)(pf:α→Nat→Int→Bool→Bool→Prop)(done made:Bool)(x:α)(S':Nat→Prop)(v:Value)(g7:Nat)(zt:TypeId)(w:World):Prop where
 fz:Fz w1.heap.size K.g w1 w
 pre:done=false→SW K w p o dp bd
 post:done=true→(∃p' o' dp' bd',SW K w p' o' dp' bd'∧pf x p' o' dp' bd')∧rE w S' x v∧∀b,S' b→w1.heap.size≤b∧b<w.heap.size
 new:made=true→w1.heap.size≤g7∧aH w g7 zt v.cells∧¬S' g7
theorem oy {S:Nat→Bool}{k i:Nat}(h:S i=false)(hm:fR S k i=true)(hne:i≠k:=by decide):False:=by
 unfold fR at hm;rw[if_neg hne,h] at hm
 cases hm
theorem cC {l:List Oper}{S:Nat→Bool}(hdc:Cs l S){i k:Nat}{o:Oper}(ho:l[i]? =some o)(hS:S k=false)(hm:k∈direct o):S i=false:=by
 cases h:S i with
 |false=>rfl
 |true=>have:=hdc i o ho h k hm;rw[hS] at this;cases this
theorem sP {S:Nat→Bool}{a b c u u' y y' z z':Value}(h3:S 3=false)(h4:S 4=false)(h5:S 5=false):∀j,S j=true→([a,b,c,u,y,z]:List Value)[j]? =([a,b,c,u',y',z']:List Value)[j]?
 |0,_=>rfl
 |1,_=>rfl
 |2,_=>rfl
 |3,h=>by rw[h3] at h;cases h
 |4,h=>by rw[h4] at h;cases h
 |5,h=>by rw[h5] at h;cases h
 |j+6,_=>rfl
theorem sH {S:Nat→Bool}{a b c u y y' z z':Value}(h4:S 4=false)(h5:S 5=false):∀j,S j=true→([a,b,c,u,y,z]:List Value)[j]? =([a,b,c,u,y',z']:List Value)[j]?
 |0,_=>rfl
 |1,_=>rfl
 |2,_=>rfl
 |3,_=>rfl
 |4,h=>by rw[h4] at h;cases h
 |5,h=>by rw[h5] at h;cases h
 |j+6,_=>rfl
theorem sZ {S:Nat→Bool}{a b c u y z z':Value}(h5:S 5=false):∀j,S j=true→([a,b,c,u,y,z]:List Value)[j]? =([a,b,c,u,y,z']:List Value)[j]?
 |0,_=>rfl
 |1,_=>rfl
 |2,_=>rfl
 |3,_=>rfl
 |4,_=>rfl
 |5,h=>by rw[h5] at h;cases h
 |j+6,_=>rfl
section
variable {α:Type} {rE:World→(Nat→Prop)→α→Value→Prop} {K:Ctx} {w1 w w6:World} {p:Nat} {o:Int} {dp bd:Bool} {pf:α→Nat→Int→Bool→Bool→Prop} {S:Nat→Bool} {x x6:α} {S' S6:Nat→Prop} {v v6:Value} {g7:Nat} {zt:TypeId}
theorem XC.called {k:Nat}{done:Bool}(X:XC rE K w1 p o dp bd pf done (S 4) x S' v g7 zt w)(h4:S 4=false)(hf:Fz w.heap.size K.g w w6){p6:Nat}{o6:Int}{dp6 bd6:Bool}(hsw:SW K w6 p6 o6 dp6 bd6)(hpf:pf x6 p6 o6 dp6 bd6)(hr:rE w6 S6 x6 v6)(hb:∀b,S6 b→w.heap.size≤b∧b<w6.heap.size)(hk:3=k:=by rfl):
  XC rE K w1 p o dp bd pf (fR S k 3) (fR S k 4) x6 S6 v6 g7 zt w6:=by
 subst hk;have hsz:=X.fz.size;exact⟨X.fz.call hf,(fun h=>by cases h),fun _=>⟨⟨p6,o6,dp6,bd6,hsw,hpf⟩,hr,fun b h=>⟨by have:=(hb b h).1;omega,(hb b h).2⟩⟩,fun hm=>(oy h4 hm).elim⟩
end
section
variable {K:Ctx} {w1 w w6:World} {p:Nat} {o:Int} {dp bd:Bool} {S:Nat→Bool} {S':Nat→Prop} {v:Value} {g7 g8:Nat} {zt:TypeId} {n:Nat}
theorem XC.yl {pf:Ex→Nat→Int→Bool→Bool→Prop}{x:Ex}{made:Bool}(X:XC cw K w1 p o dp bd pf (S 3) made x S' v g7 zt w)(hd:S 3=true)(n8:Cv w w6 g8 zt (aN [v]).toArray):
  XC cw K w1 p o dp bd pf (fR S 4 3) (fR S 4 4) x S' v g8 zt w6:=by
 have hsz:=X.fz.size;have hcells:(aN [v]).toArray=v.cells:=by simp[aN]
 have n7b:=n8.an;rw[hcells] at n7b;obtain⟨⟨p',o',dp',bd',h1,h2⟩,h3,h4⟩:=X.post hd;refine⟨X.fz.step n8.below,fun h=> ?_,fun _=>⟨⟨p',o',dp',bd',h1.step n8.below,h2⟩,h3.mono (fun _ h=>h) (fun a ha=>n8.below.cell (h4 _ ha).2),fun b hb=>⟨(h4 b hb).1,Nat.lt_of_lt_of_le (h4 b hb).2 n8.below.size⟩⟩,fun _=>⟨Nat.le_trans hsz n8.ge,n7b,fun hb=>Nat.lt_irrefl _ (Nat.lt_of_lt_of_le (h4 _ hb).2 n8.ge)⟩⟩;have h:S 3=false:=h;rw[hd] at h
 cases h
theorem XC.pM {pf:Tm→Nat→Int→Bool→Bool→Prop}{x:Tm}{made:Bool}(X:XC dr K w1 p o dp bd pf (S 3) made x S' v g7 zt w)(hd:S 3=true)(n8:Cv w w6 g8 zt (aN [v]).toArray):
  XC dr K w1 p o dp bd pf (fR S 4 3) (fR S 4 4) x S' v g8 zt w6:=by
 have hsz:=X.fz.size;have hcells:(aN [v]).toArray=v.cells:=by simp[aN]
 have n7b:=n8.an;rw[hcells] at n7b;obtain⟨⟨p',o',dp',bd',h1,h2⟩,h3,h4⟩:=X.post hd;refine⟨X.fz.step n8.below,fun h=> ?_,fun _=>⟨⟨p',o',dp',bd',h1.step n8.below,h2⟩,h3.mono (fun _ h=>h) (fun a ha=>n8.below.cell (h4 _ ha).2),fun b hb=>⟨(h4 b hb).1,Nat.lt_of_lt_of_le (h4 b hb).2 n8.below.size⟩⟩,fun _=>⟨Nat.le_trans hsz n8.ge,n7b,fun hb=>Nat.lt_irrefl _ (Nat.lt_of_lt_of_le (h4 _ hb).2 n8.ge)⟩⟩;have h:S 3=false:=h;rw[hd] at h
 cases h
end
theorem aH.FC {k h g:Nat}{T:TypeId}{cs:Array Value}{w w':World}(b:aH w k T cs)(a:Fz h g w w')(hk:k<h)(hne:k≠g):aH w' k T cs:=by
 have h1:=a.block k hk hne;unfold aH at b⊢;rw[h1];exact b
structure GA (K:Ctx)(R:Rs Ex)(E0:Nat→Nat→Rs Ex)(d k p0:Nat)(op:Int)(w:World)(g6 g7:Nat)(i q:Nat)(o:Int)(dp bd:Bool)(es:List Ex)(evs:List Value)(A:Option Addr)(c:Nat)(S:Nat→Prop)(wr:World):Prop where
 GY:i≤k
 len:es.length=i
 sw:SW K wr q o dp bd
 ab:Fz w.heap.size K.g w wr
 k6:aH wr g6 105 #[.int .i64 0, .int .i64 0, .string {data:= #[]}, .slice none 0 0]
 k7:aH wr g7 105 #[.int .i64 op, .int .i64 0, .string (strOf []), .slice A es.length c]
 aq:dw wr g7 g7 es [] evs [] (.slice A es.length c) (.slice none 0 0) S
 xN:bd=false→o=d+1∧dp=false∧p0<q∧d+1≤64∧R=(bl K.ws (List.replicate (k-i) E0) (decide (i=0)) q (d+1)).bind fun xs q=>(bF K.ws [41] q).bind fun _ q=> .ok (.mk op 0 [] (es++xs)) q
 bad:bd=true→R= .bad q dp∧(d:Int)+1≤o∧o≤d+2
theorem fq {ws:List Wd}{s:List Nat}{q:Nat}:(et ws s q false=(q+1,false)∧bF ws s q= .ok () (q+1))∨(et ws s q false=(q,true)∧bF ws s q= .bad q false):=by
 unfold et bF
 by_cases h:rW ws q s=true
 ·rw[if_pos ⟨rfl,h⟩,if_pos h];exact .inl ⟨rfl,rfl⟩
 ·rw[if_neg (fun h2=>h h2.2),if_neg h];exact .inr ⟨rfl,rfl⟩
theorem mb {ws:List Wd}{s:List Nat}{q:Nat}:et ws s q true=(q,true):=by
 unfold et;rw[if_neg (fun h=>by cases h.1)]
theorem qo (K:Ctx)(hK:K.Ok)(op:Int)(k p d:Nat)(E0:Nat→Nat→Rs Ex)(hM:fE E0)(w:World)(sw0:SW K w p d false false)(hp1:p+1≤K.ws.length)(hd:d≤64)(hk3:k≤3)(hop:bm op)
  (hE:∀(q d:Nat) W,p<q→d≤64→SW K W q d false false→Calls Tryz.prog 160 #[.pointer (some ⟨K.g,0,none⟩), .int .i64 1] W (CR K W.heap.size W (eC (E0 q d) d) (pb W))):
  Calls Tryz.prog 229 #[.pointer (some ⟨K.g,0,none⟩), .int .i64 op, .int .i64 (k:Int)] w (CR K w.heap.size w (eC (bV K.ws E0 op k p d) d) (pb w)):=by
 have ab:=Fz.refl w.heap.size K.g w;have k99:=sw0.an;have e99:K.g=K.g:=rfl;have hlt:=sw0.an.lt;have hle:=hK.le;have hlen:=hK.len;obtain⟨R,hR⟩:∃R,R=bV K.ws E0 op k p d:=⟨_,rfl⟩;rw[←hR]
 have hR1:R=(bF K.ws [40] (p+1)).bind fun _ q=>(db q d).bind fun _ q=>(bl K.ws (List.replicate k E0) true q (d+1)).bind fun xs q=>(bF K.ws [41] q).bind fun _ q=> .ok (.mk op 0 [] xs) q:=by
  rw[hR];unfold bV aT;simp only[Rs.bind_assoc];rfl
 clear hR;refine Zs 55 Tryz.func229 ?_;refine aj ?_;refine Zl az ?_;intro g6 w1 n6;have e6:=Nat.le_trans ab.size n6.ge;have l6:=Nat.lt_of_lt_of_le k99.lt n6.ge;replace ab:=ab.step n6.below;replace k99:=k99.step n6.below;have k6:=n6.an;refine aQ 0 1 2 6 (aB ?_);refine Zm ?_;refine Zv (aa.nilCheck rfl rfl) ?_;refine Zf 1 Tryz.underlying183 ?_;refine ZL Tryz.underlying3 k99 ?_;refine cG ?_;refine Zv (aa.nilCheck rfl rfl) ?_;refine Zf 1 Tryz.underlying183 ?_;refine Zq k99 ?_;intro w2 pw2;replace ab:=ab.put k99 pw2 e99;replace k6:=k6.put pw2 (by omega);replace k99:=pw2.an;refine aQ 0 1 2 6 (aB ?_);refine Zm ?_;have hta:=gE K hK (p+1) d false false [40] _ (sw0.to hle ab (by rw[Int.natCast_add];exact k99) hp1 (by omega)) (by decide) (by decide);have hk6:=k6.lt;refine Zc (Ze Tryz.func157) hta ?_;rintro e w5 ⟨⟨v5,rfl⟩,hf5,sw5⟩;refine⟨_,rfl,?_⟩;replace ab:=ab.call hf5;replace k6:=k6.fz hf5 (by omega);have hs5:=hf5.size;clear k99;refine aQ 0 1 2 6 (aB ?_);refine Zm ?_;have hen:=ku K hK _ _ _ _ _ sw5 (by omega);refine Zc (Ze Tryz.func158) hen ?_;rintro e we ⟨⟨ve,rfl⟩,hfe,swe⟩;refine⟨_,rfl,?_⟩;replace ab:=ab.call hfe;replace k6:=k6.fz hfe (by omega);have hse:=hfe.size
 have hst:∃(q:Nat) (dp bd:Bool),SW K we q (d+1) dp bd∧(bd=false→dp=false∧p<q∧d+1≤64∧R=(bl K.ws (List.replicate k E0) true q (d+1)).bind fun xs q=>(bF K.ws [41] q).bind fun _ q=> .ok (.mk op 0 [] xs) q)∧(bd=true→R= .bad q dp):=by
  rcases fq (ws:=K.ws) (s:=[40]) (q:=p+1) with ⟨h1,h2⟩|⟨h1,h2⟩
  ·rw[h1] at swe
   dsimp only at swe;rw[h2,Rs.bB] at hR1
   by_cases h64:64<(d:Int)+1
   ·rw[if_pos ⟨h64,rfl⟩] at swe
    refine⟨_,_,_,swe,fun h=>(by cases h),fun _=> ?_⟩;rw[hR1];unfold db;rw[if_pos (by omega)];rfl
   ·rw[if_neg (fun h=>h64 h.1)] at swe
    refine⟨_,_,_,swe,fun _=>⟨rfl,by omega,by omega,?_⟩,fun h=>by cases h⟩;rw[hR1];unfold db;rw[if_neg (by omega),Rs.bB]
  ·rw[h1] at swe
   dsimp only at swe;rw[h2,Rs.lM] at hR1;rw[if_neg (fun h=>by cases h.2),if_neg (fun h=>by cases h.2)] at swe;exact⟨_,_,_,swe,fun h=>(by cases h),fun _=>hR1⟩
 clear swe hR1 sw5 sw0;obtain⟨q0,dp0,bd0,sw,hgood,hbad⟩:=hst;have k6lt:=k6.lt;refine aQ 0 1 2 6 (aB ?_);refine Zm ?_;refine Zv (aa.build rfl rfl (gV op _)) ?_;refine Zl az ?_;intro g7 w3 n7;have e7:=Nat.le_trans ab.size n7.ge;have l7:=Nat.lt_of_lt_of_le k6.lt n7.ge;replace ab:=ab.step n7.below;replace k6:=k6.step n7.below;replace sw:=sw.step n7.below;have k7:=n7.an;refine Zo 4 k7 ?_;intro w4 pw4;replace ab:=ab.put k7 pw4 e7;replace k6:=k6.put pw4 (by omega);replace sw:=sw.put k7 pw4 e7;replace k7:=pw4.an;refine aO 0 1 2 6 7 (aI (aj ?_));refine Za ?_;refine aY 0 1 2 6 7 8 (Zt (Cd.block ?_))
 refine Cd.loop (σ:=Nat × Nat × Int × Bool × Bool × List Ex × List Value × (Option Addr × Nat) × (Nat→Prop)) (fun s=>[(0, .pointer (some ⟨K.g,0,none⟩)),(2, .int .i64 (k:Int)),(6, .pointer (some ⟨g6,0,none⟩)),(7, .pointer (some ⟨g7,0,none⟩)),(8, .int .i64 (s.1:Int))])
  (fun s wr=>GA K R E0 d k p op w g6 g7 s.1 s.2.1 s.2.2.1 s.2.2.2.1 s.2.2.2.2.1 s.2.2.2.2.2.1 s.2.2.2.2.2.2.1 s.2.2.2.2.2.2.2.1.1 s.2.2.2.2.2.2.2.1.2 s.2.2.2.2.2.2.2.2 wr) (fun s=>k-s.1) (0,q0,d+1,dp0,bd0,[],[],(none,0),fun _=>False)
  ⟨Nat.zero_le _,rfl,sw,ab,k6,k7,dw.nil _ _ _,fun h=>⟨rfl,(hgood h).1,(hgood h).2.1,(hgood h).2.2.1,(hgood h).2.2.2⟩,fun h=>⟨hbad h,Int.le_refl _,by dsimp only;omega⟩⟩ ⟨rfl,rfl,rfl,rfl,rfl,trivial⟩ ?_
 clear sw ab k6 k7 hgood hbad;rintro⟨i,q,o,dp,bd,es,evs,⟨A,c⟩,S⟩ wr ⟨hi,hes,sw,ab,k6,k7,aq,hgood,hbad⟩;dsimp only at hi hes sw k7 aq hgood hbad⊢;have k99:=sw.an;have h67:g6<g7:=by omega
 have hg7:w.heap.size≤g7:=by omega
 have hgt:K.g<g7:=by omega
 have k7l:=k7.lt;refine Cd.seq (aj ?_);refine Zm ?_;refine Zm ?_;refine eI ?_;refine Zm ?_;refine aw.start ?_;refine bw (fun hcx=>aa.move rfl rfl) ?_;refine Zn (fun hcx=>aa.nilCheck rfl rfl) ?_;refine Zn (fun hcx=>aa.ar 4 rfl rfl Tryz.underlying183 rfl (by kernel_rfl)) ?_;refine Zn (fun hcx=>aa.au rfl rfl Tryz.underlying4 rfl k99 rfl) ?_;refine Zn (fun hcx=>aa.not rfl rfl) ?_;refine fQ ?_;refine aY 0 2 6 7 8 31 (Zt ?_);refine Cd.cond rfl (fun hc=> ?_) (fun hc=> ?_)
 ·obtain⟨hik,rfl⟩:i<k∧bd=false:=by simpa using hc
  obtain⟨rfl,rfl,hpq,hd1,hRg⟩:=hgood rfl;obtain⟨m,hm⟩:∃m,k-i=m+1:=⟨k-i-1,by omega⟩;have hm2:k-(i+1)=m:=by omega
  rw[hm,List.replicate_succ,jl] at hRg;refine Cd.skip (aI (Cd.block ?_));refine Cd.lB (σ:=Nat × Bool) (fun _=>[(0, .pointer (some ⟨K.g,0,none⟩)),(2, .int .i64 (k:Int)),(6, .pointer (some ⟨g6,0,none⟩)),(7, .pointer (some ⟨g7,0,none⟩)),(8, .int .i64 (i:Int))]) (fun s wj=>SW K wj s.1 ((d:Int)+1) false s.2∧Fz w.heap.size K.g w wj∧aH wj g6 105 #[.int .i64 0, .int .i64 0, .string {data:= #[]}, .slice none 0 0]∧aH wj g7 105 #[.int .i64 op, .int .i64 0, .string (strOf []), .slice A es.length c]∧dw wj g7 g7 es [] evs [] (.slice A es.length c) (.slice none 0 0) S∧(s.2=false→p<s.1∧R=(E0 s.1 (d+1)).bind fun x q=>(bl K.ws (List.replicate m E0) false q (d+1)).bind fun xs q=>(bF K.ws [41] q).bind fun _ q=> .ok (.mk op 0 [] (es++x::xs)) q)∧(s.2=true→R= .bad s.1 false)) ?_ ?_
  ·skip
   refine aj ?_;refine Zm ?_;refine uV ?_;refine ba 0 2 6 7 8 31 35 (Zt ?_);refine Cd.ak rfl (fun hc=> ?_) (fun hc=> ?_)
   ·have hta:=gE K hK q ((d:Int)+1) false false [44] _ sw (by decide) (by decide)
    rw[decide_eq_false (show¬i=0 by omega),if_neg (by decide)] at hRg;refine Zr ?_;refine Zm ?_;refine Zc (Ze Tryz.func157) hta ?_;rintro e w5 ⟨⟨v5,rfl⟩,hf5,sw5⟩;refine⟨_,rfl,?_⟩;clear hta;refine ba 0 2 6 7 8 31 35 ?_;refine ae.join (et K.ws [44] q false) ⟨rfl,rfl,rfl,rfl,rfl,trivial⟩ ⟨sw5,ab.call hf5,k6.fz hf5 (by omega),k7.fz hf5 (by omega),aq.fz hf5 hgt,fun h=> ?_,fun h=> ?_⟩
    ·rcases fq (ws:=K.ws) (s:=[44]) (q:=q) with ⟨h1,h2⟩|⟨h1,h2⟩
     ·rw[h1]
      rw[h2] at hRg;refine⟨by show p<q+1;omega,?_⟩;rw[hRg];simp only[Rs.bind_assoc,Rs.bB]
     ·rw[h1] at h;cases h
    ·rcases fq (ws:=K.ws) (s:=[44]) (q:=q) with ⟨h1,h2⟩|⟨h1,h2⟩
     ·rw[h1] at h;cases h
     ·rw[h1]
      rw[h2] at hRg;exact hRg
   ·obtain rfl:i=0:=by omega
    rw[decide_eq_true rfl,if_pos rfl] at hRg;refine Cd.skip ?_;refine ae.join (q,false) ⟨rfl,rfl,rfl,rfl,rfl,trivial⟩ ⟨sw,ab,k6,k7,aq,fun _=>⟨hpq,?_⟩,fun h=>by cases h⟩;rw[hRg];simp only[Rs.bind_assoc,Rs.bB]
  clear sw ab k6 k7 k99 aq hgood hbad hRg hc;rintro⟨q1,b1⟩ wj ⟨sw,ab,k6,k7,aq,hgood,hbad⟩;dsimp only at sw hgood hbad
  have hcl:∀W,SW K W q1 ((d:Int)+1) false b1→Fz wj.heap.size K.g wj W→Calls Tryz.prog 160 #[.pointer (some ⟨K.g,0,none⟩), .int .i64 1] W (CR K W.heap.size W (fun x p o dp bd=>(b1=false→eC (E0 q1 (d+1)) (d+1) x p o dp bd)∧(b1=true→uP q1 ((d:Int)+1) false x p o dp bd)) (pb W)):=fun W h1 _=>by
   cases b1 with
   |false=>
    refine(hE q1 (d+1) W (hgood rfl).1 hd1 (by rw[Int.natCast_add];exact h1)).mono fun e W' h=> ?_;obtain⟨hf,v,x,p',o',dp',bd',rfl,h2,h3,h4⟩:=h;exact⟨hf,v,x,p',o',dp',bd',rfl,h2,h3,fun _=>h4,fun h=>by cases h⟩
   |true=>
    refine(oo K hK q1 _ false 1 W h1).mono fun e W' h=> ?_;obtain⟨hb,rfl⟩:=h;exact⟨Fz.of hb,_,j0,q1,_,false,true,rfl,⟨fun _=>False,cw.zero _ _,fun b hb=>hb.elim⟩,h1.step hb,fun h=>(by cases h),fun _=>⟨rfl,rfl,rfl,rfl⟩⟩
  have hlt7:=k7.lt;have hsb:=ab.size;refine Cd.jo (σT:=Ex × Value × (Nat→Prop) × Nat × Value) 6 (by kernel_rfl) rfl rfl (fun σ=>[.pointer (some ⟨g7,3,none⟩), .slice A es.length c, .pointer (some ⟨K.g,0,none⟩),σ.2.1, .slice (some ⟨σ.2.2.2.1,0,none⟩) 1 1,σ.2.2.2.2]) (fun σ S W=>(S 5=false→XC cw K wj q1 ((d:Int)+1) false b1 (fun x p o dp bd=>(b1=false→eC (E0 q1 (d+1)) (d+1) x p o dp bd)∧(b1=true→uP q1 ((d:Int)+1) false x p o dp bd)) (S 3) (S 4) σ.1 σ.2.2.1 σ.2.1 σ.2.2.2.1 105 W)∧(S 5=true→(∃p9 o9 dp9 bd9,SW K W p9 o9 dp9 bd9∧(fun x p o dp bd=>(b1=false→eC (E0 q1 (d+1)) (d+1) x p o dp bd)∧(b1=true→uP q1 ((d:Int)+1) false x p o dp bd)) σ.1 p9 o9 dp9 bd9)∧Fz g7 K.g wj W∧aH W g7 105 #[.int .i64 op, .int .i64 0, .string (strOf []), .slice A es.length c]∧∃S',dw W g7 g7 (es++[σ.1]) [] (evs++[σ.2.1]) [] (σ.2.2.2.2) (.slice none 0 0) S')) ((j0,undef,fun _=>False,0,undef)) ?_ ?_ ?_
  ·intro w0 hb0 hs0
   exact⟨fun _=>⟨Fz.of hb0,fun _=>sw.step hb0,fun h=>(by cases h),fun h=>(by cases h)⟩,fun h=>(by cases h)⟩
  ·intro k o ho
   match k,ho with
   |0,ho=>
    injection ho with ho
    subst ho;intro σ S w hS hpre hdc hX;refine Seq.val (aa.ar 3 rfl rfl Tryz.underlying105 rfl (by kernel_rfl)) rfl rfl rfl (Seq.nil ?_);exact ae.aD rfl rfl rfl hpre rfl (fun _ _=>rfl) hX
   |1,ho=>
    injection ho with ho
    subst ho;intro σ S w hS hpre hdc hX;have h5:=cC hdc (i:=5) rfl hS (ao rfl);refine Seq.val (aa.au (g:=g7) (i:=3) rfl rfl Tryz.underlying68 rfl (k7.fz (hX.1 h5).fz (by omega)) rfl) rfl rfl rfl (Seq.nil ?_);exact ae.aD rfl rfl rfl hpre rfl (fun _ _=>rfl) hX
   |2,ho=>
    injection ho with ho
    subst ho;intro σ S w hS hpre hdc hX;refine Seq.val (aa.move rfl rfl) rfl rfl rfl (Seq.nil ?_);exact ae.aD rfl rfl rfl hpre rfl (fun _ _=>rfl) hX
   |3,ho=>
    injection ho with ho
    subst ho;intro σ S w hS hpre hdc hX;have h5:=cC hdc (i:=5) rfl hS (ao rfl);have h4:=cC hdc (i:=4) rfl hS (ao rfl);have hXa:=hX.1 h5;refine Zc (Ze Tryz.func160) ((fun W h1 h2=>hcl W h1 h2) w (hXa.pre hS) hXa.fz) ?_;rintro e w6 ⟨hf,v6,x6,p6,o6,dp6,bd6,rfl,⟨S6,hr6,hb6⟩,hsw6,hpf6⟩;refine⟨_,rfl,Seq.nil ?_⟩;exact ae.aD (σ:=σ) (σ':=(x6,v6,S6,σ.2.2.2.1,σ.2.2.2.2)) rfl rfl rfl hpre rfl (fun j hj=>sP hS h4 h5 j hj) ⟨fun _=>hXa.called h4 hf hsw6 hpf6 hr6 hb6,fun hm=>(oy h5 hm).elim⟩
   |4,ho=>
    injection ho with ho
    subst ho;intro σ S w hS hpre hdc hX;have h5:=cC hdc (i:=5) rfl hS (ao rfl);have hXa:=hX.1 h5;have hd:=hpre 3 (ao rfl);have hones:=(hXa.post hd).2.1.aV;refine Seq.slice (vs:=[σ.2.1]) (s:=4) rfl rfl rfl Tryz.underlying68 (by kernel_rfl) az (by omega) (by omega) ⟨hones.1,trivial⟩ rfl rfl rfl ?_;intro g7 w' n7;refine Seq.nil ?_;exact ae.aD (σ:=σ) (σ':=(σ.1,σ.2.1,σ.2.2.1,g7,σ.2.2.2.2)) rfl rfl rfl hpre rfl (fun j hj=>sH hS h5 j hj) ⟨fun _=>hXa.yl hd n7,fun hm=>(oy h5 hm).elim⟩
   |5,ho=>
    injection ho with ho
    subst ho;intro σ S w hS hpre hdc hX;have hXa:=hX.1 hS;have hd:=hpre 3 (ao rfl);obtain⟨⟨p3,o3,dp3,bd3,sw3,hpf3⟩,hrep,haway⟩:=hXa.post hd;obtain⟨ez,kz,hnz⟩:=hXa.new (hpre 4 (ao rfl));have hones:=hrep.aV;have hsz:=hXa.fz.size;have aq3:=aq.fz hXa.fz hgt;have hown:=aq3.fB;have k90:=k7.fz hXa.fz (by omega);have hlt90:=k7.lt;refine Seq.gC rfl rfl rfl Tryz.underlying68 (by kernel_rfl) az rfl (by decide) (b:=56) (by kernel_rfl) hown (Reads.an (size:=4) kz 1 hones.1) hones.2 (by omega) (by first|(simp only[maxLen];omega)|(simp only[maxLen,List.length_nil,List.length_cons];omega)|simp[maxLen]) (by first|omega|(simp only[List.length_nil,List.length_cons];omega)|simp) rfl rfl rfl ?_;intro v' w4 hown' happ hv';refine Seq.nil ?_;have hs4:=happ.below.size
    have aq6:=aq3.Cc hrep (fun b hb=>⟨by have:=(haway b hb).1;omega,(haway b hb).2,by have:=(haway b hb).1;omega,fun e=>by have:=(aq.fB.aS b e).2;have:=(haway b hb).1;omega,fun e=>by have:=(aq.fO.aS b e).2;have:=(haway b hb).1;omega⟩) hown' hs4
     (fun b _ h2 h3 h4=>happ.grown.block b h2 (fun e=>h4 e.symm)) (hv'.elim .inl fun e=> .inr ⟨_,e,Nat.le_refl _⟩) (by omega)
    exact ae.aD (σ:=σ) (σ':=(σ.1,σ.2.1,σ.2.2.1,σ.2.2.2.1,v')) rfl rfl rfl hpre rfl (fun j hj=>sZ hS j hj) ⟨(fun h=>by cases h),fun _=>⟨⟨p3,o3,dp3,bd3,⟨sw3.an.grown happ.grown (fun e=>by have:=(hown.aS _ e.symm).1;omega),sw3.rd.below (happ.below.mono (by omega)),sw3.bJ,sw3.ko,sw3.le⟩,hpf3⟩,(hXa.fz.less (by omega)).trans (Fz.of happ.below),k90.grown happ.grown (fun e=>aq3.zL e.symm),_,aq6⟩⟩
   |k+6,ho=>simp at ho
  rintro⟨x,v6,S6,g9,vX⟩ S3 w3 hS hX;obtain⟨⟨p3,o3,dp3,bd3,sw3,hpf1,hpf2⟩,fz3,k73,S7,aq3⟩:=hX.2 (hS 5 (by decide));clear hX;dsimp only at hpf1 hpf2 aq3;have hs3:=fz3.size;have bel3:Fz w.heap.size K.g w w3:=ab.trans (fz3.less (by omega));have k63:=k6.FC fz3 h67 (by omega);obtain⟨AX,cX,hvX,-⟩:=aq3.fB.reads;subst hvX;clear ab k6 k7 aq sw;have ab:=bel3;have k6:=k63;have k7:=k73;have aq:=aq3;have sw:=sw3;have e7:w.heap.size≤g7:=hg7;refine Zf 3 Tryz.underlying105 ?_;refine Zq k7 ?_;intro w5 pw5;replace ab:=ab.put k7 pw5 e7;replace k6:=k6.put pw5 (by omega);replace aq:=aq.put k7 pw5 e7;replace sw:=sw.put k7 pw5 e7;replace k7:=pw5.an;refine aO 0 2 6 7 8 (ae.ah (eh ?_));refine Zm ?_;refine cG ?_;refine Za ?_;refine aO 0 2 6 7 8 ?_;refine ae.round (i+1,p3,o3,dp3,bd3,es++[x],evs++[v6],(AX,cX),_) ⟨rfl,rfl,rfl,rfl,rfl,trivial⟩ ⟨by dsimp only;omega,by dsimp only;rw[List.length_append,hes];rfl,sw,ab,k6,k7,aq,fun hb=> ?_,fun hb=> ?_⟩ (by dsimp only;omega)
  ·dsimp only at hb⊢
   subst hb
   cases b1 with
   |true=>cases (hpf2 rfl).2.2.2
   |false=>
    obtain⟨hq1,hR⟩:=hgood rfl;have hres:=hpf1 rfl;unfold eC at hres
    cases hr:E0 q1 (d+1) with
    |out=>rw[hr] at hres;exact hres.elim
    |bad a b=>rw[hr] at hres;cases hres.2.2.1
    |ok a b=>
     rw[hr] at hres hR;obtain⟨rfl,rfl,rfl,rfl,-⟩:=hres;have hmono:=hM _ _ _ _ hr;refine⟨by omega,rfl,by omega,hd1,?_⟩;rw[hR,Rs.bB,hm2,decide_eq_false (show¬i+1=0 by omega)];simp only[List.append_assoc,List.cons_append,List.nil_append]
  ·dsimp only at hb⊢
   subst hb
   cases b1 with
   |true=>
    obtain⟨rfl,rfl,rfl,-⟩:=hpf2 rfl;exact⟨hbad rfl,by omega,by omega⟩
   |false=>
    obtain⟨hq1,hR⟩:=hgood rfl;have hres:=hpf1 rfl;unfold eC at hres
    cases hr:E0 q1 (d+1) with
    |out=>rw[hr] at hres;exact hres.elim
    |ok a b=>rw[hr] at hres;cases hres.2.2.2.2
    |bad a b=>
     rw[hr] at hres hR;obtain⟨rfl,rfl,-,h1,h2⟩:=hres;exact⟨hR,by omega,by omega⟩
 ·have hta:=gE K hK q o dp bd [41] _ sw (by decide) (by decide)
  have hend:(bd=false∧i=k)∨bd=true:=by
   cases bd with
   |true=>exact .inr rfl
   |false=>refine .inl ⟨rfl,?_⟩;simp at hc;omega
  have hst:∃(q':Nat) (bd':Bool),et K.ws [41] q bd=(q',bd')∧1≤o∧o≤66∧eC R d (.mk op 0 [] es) q' (o-1) dp bd':=by
   rcases hend with ⟨rfl,rfl⟩|rfl
   ·obtain⟨rfl,rfl,hpq,hd1,hRg⟩:=hgood rfl
    rw[Nat.sub_self,List.replicate_zero,bl,Rs.bB,List.append_nil] at hRg;rcases fq (ws:=K.ws) (s:=[41]) (q:=q) with ⟨h1,h2⟩|⟨h1,h2⟩
    ·rw[h2,Rs.bB] at hRg
     rw[hRg];exact⟨_,_,h1,by omega,by omega,rfl,rfl,by omega,rfl,rfl⟩
    ·rw[h2,Rs.lM] at hRg
     rw[hRg];exact⟨_,_,h1,by omega,by omega,rfl,rfl,rfl,by omega,by omega⟩
   ·obtain⟨hRb,h1,h2⟩:=hbad rfl
    rw[hRb];exact⟨_,_,mb,by omega,by omega,rfl,rfl,rfl,by omega,by omega⟩
  obtain⟨q',bd',htq,ho1,ho2,hres⟩:=hst;rw[htq] at hta;refine Cd.exit (ae.aC (ae.aA (ae.ay (aB ?_))));refine Zm ?_;refine Zc (Ze Tryz.func157) hta ?_;rintro e w5 ⟨⟨v5,rfl⟩,hf5,sw5⟩;refine⟨_,rfl,?_⟩;have bel5:=ab.call hf5;have k65:=k6.fz hf5 (by omega);have k75:=k7.fz hf5 (by omega);have aq5:=aq.fz hf5 hgt;clear hta ab k6 k7 k99 aq sw;have ab:=bel5;have k6:=k65;have k7:=k75;have k99:=sw5.an;have e6:w.heap.size≤g6:=by omega
  have hs5:=hf5.size;have loc:=Fz.refl w5.heap.size K.g w5;dsimp only at k99;refine aY 0 2 6 7 8 31 (aB ?_);refine Zm ?_;refine Zv (aa.nilCheck rfl rfl) ?_;refine Zf 2 Tryz.underlying183 ?_;refine ZL Tryz.underlying3 k99 ?_;refine mC ?_;refine Zv (aa.nilCheck rfl rfl) ?_;refine Zf 2 Tryz.underlying183 ?_;refine Zq k99 ?_;intro w5 pw5;replace ab:=ab.put k99 pw5 e99;replace k7:=k7.put pw5 (by omega);replace k6:=k6.put pw5 (by omega);replace loc:=loc.put k99 pw5 e99;replace k99:=pw5.an;refine aY 0 2 6 7 8 31 (aB ?_);have sw6:=sw5.to hle loc k99 sw5.bJ (by omega);have aq6:=aq5.fz loc hgt;clear sw5 aq5;have k6b:=k6;refine ZW 4 Tryz.underlying105 k7 ?_;refine Zo 4 k6 ?_;intro w6 pw6;replace ab:=ab.put k6 pw6 e6;replace k7:=k7.put pw6 (by omega);replace k99:=k99.put pw6 (by omega);replace k6:=pw6.an;refine aY 0 2 6 7 8 31 (Zt (Cd.ret ?_));refine gp 4 k6 Tryz.underlying105 ?_;have hrep:=aq6.ex op 0 [] hop (by unfold bm;omega) (by simp) (by simp) (by omega);have hbn:=aq6.bounds;have hsz:=pw6.size;exact⟨ab,_,_,_,_,_,_,rfl,⟨_,hrep.mono (fun _ h=>h) (fun a ha=>World.cell?_of_block (pw6.grown.block _ (hbn _ ha).2.1 (fun e=>by injection e with e;have:=(hbn _ ha).1;omega))),fun b hb=>by have:=hbn b hb;omega⟩,sw6.put k6b pw6 trivial,hres⟩
def wm (ws:List Wd):Prop:=∀x∈ws,Fy x
theorem xg {ws:List Wd}(h:wm ws)(p:Nat):Fy (dn ws p)∨(dn ws p).kind= -1:=by
 unfold dn;rw[List.getD_eq_getElem?_getD]
 cases hp:ws[p]? with
 |none=>exact .inr rfl
 |some x=>exact .inl (h x (List.mem_of_getElem? hp))
theorem E9 {ws:List Wd}(h:wm ws){p:Nat}(hk:(dn ws p).kind=1):0≤(dn ws p).n:=by
 rcases xg h p with (⟨h1,-⟩|⟨-,h2,-⟩|⟨h1,-⟩|⟨h1,-⟩)|h1
 all_goals first|exact h2|(rw[hk] at h1;exact absurd h1 (by decide))
theorem Ff {ws:List Wd}(h:wm ws){p:Nat}(hk:(dn ws p).kind=2):0≤(dn ws p).n∧(dn ws p).n≤2932896:=by
 rcases xg h p with (⟨h1,-⟩|⟨h1,-⟩|⟨-,h2⟩|⟨h1,-⟩)|h1
 all_goals first|exact h2|(rw[hk] at h1;exact absurd h1 (by decide))
theorem xH {ws:List Wd}(h:wm ws){p:Nat}(hk:(dn ws p).kind=3):cS (dn ws p).text=true:=by
 rcases xg h p with (⟨h1,-⟩|⟨h1,-⟩|⟨h1,-⟩|⟨-,h2,-⟩)|h1
 all_goals first|exact h2|(rw[hk] at h1;exact absurd h1 (by decide))
section
variable {α:Type} {ws:List Wd}
theorem sl {Q:α→Prop}(ws:List Wd):∀(aV:List (Nat→Nat→Rs α)),(∀f∈aV,∀p d x q,f p d= .ok x q→Q x)→∀first p d xs q,bl ws aV first p d= .ok xs q→∀x∈xs,Q x
 | [],_,first,p,d,xs,q,h=>by
  injection h with h _
  subst h;exact fun x hx=>absurd hx (by simp)
 |f::r,hm,first,p,d,xs,q,h=>by
  rw[bl] at h;obtain⟨u,p1,h1,h⟩:=Rs.ax h;obtain⟨x,p2,h2,h⟩:=Rs.ax h;obtain⟨ys,p3,h3,h⟩:=Rs.ax h;injection h with h _
  subst h;intro y hy;rcases List.mem_cons.1 hy with rfl|hy
  ·exact hm f (by simp) _ _ _ _ h2
  ·exact sl ws r (fun g hg=>hm g (by simp[hg])) _ _ _ _ _ h3 y hy
theorem kn {Q:α→Prop}{aV:List (Nat→Nat→Rs α)}(hm:∀f∈aV,∀p d x q,f p d= .ok x q→Q x){p d q:Nat}{xs:List α}(h:aT ws aV p d= .ok xs q):∀x∈xs,Q x:=by
 unfold aT at h;obtain⟨u,p1,h1,h⟩:=Rs.ax h;obtain⟨u2,p2,h2,h⟩:=Rs.ax h;obtain⟨ys,p3,h3,h⟩:=Rs.ax h;obtain⟨u3,p4,h4,h⟩:=Rs.ax h;injection h with h _
 subst h;exact sl ws aV hm _ _ _ _ _ h3
end
theorem iX {op n:Int}{nm:List Nat}{l:List Ex}(h:gH op n nm l.length=true)(hl:∀x∈l,bE x=true):bE (.mk op n nm l)=true:=by
 rw[oE];show(gH op n nm l.length&&l.all bE)=true;rw[h,List.all_eq_true.2 hl];rfl
def y8 (f:Nat→Nat→Rs Ex):Prop:=∀p d x q,f p d= .ok x q→bE x=true
theorem ot {ws:List Wd}{E0:Nat→Nat→Rs Ex}(hE:y8 E0){op:Int}{k p d q:Nat}{x:Ex}(hh:gH op 0 [] k=true)(h:bV ws E0 op k p d= .ok x q):bE x=true:=by
 unfold bV at h;obtain⟨xs,p1,h1,h⟩:=Rs.ax h;injection h with h _
 subst h;have hl:=eE h1;rw[List.length_replicate] at hl;exact iX (by rw[hl];exact hh) (kn (fun f hf=>(List.mem_replicate.1 hf).2▸hE) h1)
theorem zo {nm:List Nat}(h:cS nm=true)(h2:cl nm=false):gH 3 0 nm 0=true:=by
 unfold gH ir;rw[h,h2];simp[eU]
theorem Ei {ws:List Wd}(hw:wm ws){E0:Nat→Nat→Rs Ex}(hE:y8 E0):y8 (fm ws E0):=by
 intro p d x q h;unfold fm at h;split at h
 ·rename_i hk
  injection h with h _
  subst h;have:=E9 hw hk;refine iX ?_ (by simp);unfold gH;simp[eU];omega
 split at h
 ·rename_i hk
  injection h with h _
  subst h;have:=Ff hw hk;refine iX ?_ (by simp);unfold gH;simp[eU];omega
 split at h
 ·rename_i hk
  split at h
  ·injection h with h _
   subst h;exact iX (by decide) (by simp)
  split at h
  ·exact ot hE (by decide) h
  split at h
  ·exact ot hE (by decide) h
  split at h
  ·exact ot hE (by decide) h
  ·obtain⟨nm,p1,h1,h⟩:=Rs.ax h
   injection h with h _
   subst h;obtain⟨-,rfl,h3,h4⟩:=jb h1;exact iX (zo (xH hw h3) h4) (by simp)
 split at h
 ·obtain⟨xs,p1,h1,h⟩:=Rs.ax h
  injection h with h _
  have hl:=eE h1;have ha:=kn (Q:=fun x=>bE x=true) (fun f hf=>(List.mem_singleton.1 hf)▸hE) h1
  match xs,hl with
  | [y],_=>
   subst h;exact ha y (by simp)
 ·cases h
theorem vi {S:Nat→Nat→Rs Ex}(hS:y8 S){op:Int}(hh:gH op 0 [] 1=true):y8 (dz S op):=by
 intro p d x q h;unfold dz at h;obtain⟨u,p1,h1,h⟩:=Rs.ax h;obtain⟨y,p2,h2,h⟩:=Rs.ax h;injection h with h _
 subst h;exact iX hh (by intro z hz;rw[List.mem_singleton.1 hz];exact hS _ _ _ _ h2)
theorem CX {ws:List Wd}(hw:wm ws){S E0:Nat→Nat→Rs Ex}(hS:y8 S)(hE:y8 E0):y8 (bD ws S E0):=by
 intro p d x q h;unfold bD at h;split at h
 ·exact vi hS (by decide) _ _ _ _ h
 split at h
 ·exact vi hS (by decide) _ _ _ _ h
 ·exact Ei hw hE _ _ _ _ h
theorem xL:∀lvl,∀op∈iu lvl,gH op 0 [] 2=true:=fun lvl=>by
 unfold iu;split<;>decide
theorem Da {ws:List Wd}{lvl p:Nat}{op:Int}(h:opAt ws lvl p=some op):op∈iu lvl:=by
 unfold opAt at h;split at h
 ·cases h
 split at h
 ·exact List.mem_of_getElem? h
 ·cases h
structure GL (f:PF):Prop where
 E:∀lvl,y8 (f.E lvl)
 L:∀lvl x p d y q,bE x=true→f.L lvl x p d= .ok y q→bE y=true
 S:y8 f.S
theorem Eo {ws:List Wd}{f:PF}(hf:GL f){lvl p d q:Nat}{x y:Ex}(hx:bE x=true)(h:dI ws f lvl x p d= .ok y q):bE y=true:=by
 unfold dI at h
 cases ho:opAt ws lvl p with
 |none=>
  rw[ho] at h;injection h with h _
  subst h;exact hx
 |some op=>
  rw[ho] at h;obtain⟨r,p1,h1,h⟩:=Rs.ax h
  have hm:bE (tZ op x r)=true:=iX (xL lvl op (Da ho)) (by
   intro z hz;rcases List.mem_cons.1 hz with rfl|hz
   ·exact hx
   ·rw[List.mem_singleton.1 hz];exact hf.E _ _ _ _ _ h1)
  split at h
  ·injection h with h _
   subst h;exact hm
  ·exact hf.L _ _ _ _ _ _ hm h
theorem Bv {L:Nat→Ex→Nat→Nat→Rs Ex}{S:Nat→Nat→Rs Ex}(hL:∀lvl x p d y q,bE x=true→L lvl x p d= .ok y q→bE y=true)(hS:y8 S):∀i,y8 (lH L S i)
 |0=>hS
 |i+1=>fun p d x q h=>by
  rw[lH] at h;obtain⟨y,p1,h1,h⟩:=Rs.ax h;exact hL _ _ _ _ _ _ (Bv hL hS i _ _ _ _ h1) h
theorem yk {ws:List Wd}(hw:wm ws):∀n,GL (bH ws n)
 |0=>⟨fun _ _ _ _ _ h=>by(cases h),fun _ _ _ _ _ _ _ h=>by(cases h),fun _ _ _ _ h=>by(cases h)⟩
 |n+1=>by
  have ih:=yk hw n;have hL:∀lvl x p d y q,bE x=true→dI ws (bH ws n) lvl x p d= .ok y q→bE y=true:=fun lvl x p d y q hx h=>Eo ih hx h;have hS:=CX hw ih.S (ih.E 0);exact⟨fun lvl=>Bv hL hS _,hL,hS⟩
theorem oU {op:Int}{nm:List Nat}{es:List Ex}{ts:List Tm}(h:fV op nm es.length ts.length=true)(he:∀x∈es,bE x=true)(ht:∀x∈ts,dy x=true):dy (.mk op nm es ts)=true:=by
 rw[oS];show(fV op nm es.length ts.length&&es.all bE&&ts.all dy)=true;rw[h,List.all_eq_true.2 he,List.all_eq_true.2 ht];rfl
theorem nc {ws:List Wd}{E0:Nat→Nat→Rs Ex}{T:Nat→Nat→Rs Tm}:∀(n m:Nat) first p d xs q,bl ws (eO E0 T n m) first p d= .ok xs q→(cU xs).length=n∧(bY xs).length=m
 |0,0,first,p,d,xs,q,h=>by
  injection h with h _
  subst h;exact⟨rfl,rfl⟩
 |n+1,m,first,p,d,xs,q,h=>by
  have e:eO E0 T (n+1) m=(fun p d=>(E0 p d).map .inl)::eO E0 T n m:=by unfold eO;rw[List.replicate_succ];rfl
  rw[e,bl] at h;obtain⟨u,p1,h1,h⟩:=Rs.ax h;obtain⟨x,p2,h2,h⟩:=Rs.ax h;obtain⟨ys,p3,h3,h⟩:=Rs.ax h;injection h with h _
  subst h;obtain⟨a,-,rfl⟩:=Rs.lj h2;obtain⟨i1,i2⟩:=nc n m _ _ _ _ _ h3;exact⟨by show(a::cU ys).length=n+1;rw[List.length_cons,i1],i2⟩
 |0,m+1,first,p,d,xs,q,h=>by
  have e:eO E0 T 0 (m+1)=(fun p d=>(T p d).map .inr)::eO E0 T 0 m:=by unfold eO;rw[List.replicate_succ];rfl
  rw[e,bl] at h;obtain⟨u,p1,h1,h⟩:=Rs.ax h;obtain⟨x,p2,h2,h⟩:=Rs.ax h;obtain⟨ys,p3,h3,h⟩:=Rs.ax h;injection h with h _
  subst h;obtain⟨a,-,rfl⟩:=Rs.lj h2;obtain⟨i1,i2⟩:=nc 0 m _ _ _ _ _ h3;exact⟨i1,by show(a::bY ys).length=m+1;rw[List.length_cons,i2]⟩
theorem wi (t:List Nat)(h:(cF t).1≠0):fV (cF t).1 [] (cF t).2.1 (cF t).2.2=true:=by
 unfold cF at h⊢
 repeat' split
 all_goals first|decide|(simp_all;done)
def GC (f:Nat→Nat→Rs Tm):Prop:=∀p d x q,f p d= .ok x q→dy x=true
theorem uJ {x:Ex}:∀ {l:List Part},x∈cU l→Sum.inl x∈l:=fun {l} h=>by
 unfold cU at h;obtain⟨y,h1,h2⟩:=List.mem_filterMap.1 h
 cases y with
 |inl e=>injection h2 with h2;subst h2;exact h1
 |inr t=>cases h2
theorem uD {x:Tm}:∀ {l:List Part},x∈bY l→Sum.inr x∈l:=fun {l} h=>by
 unfold bY at h;obtain⟨y,h1,h2⟩:=List.mem_filterMap.1 h
 cases y with
 |inl e=>cases h2
 |inr t=>injection h2 with h2;subst h2;exact h1
theorem Dm {ws:List Wd}(hw:wm ws){E0:Nat→Nat→Rs Ex}{T:Nat→Nat→Rs Tm}(hE:y8 E0)(hT:GC T):GC (ee ws E0 T):=by
 intro p d x q h;unfold ee at h;split at h
 ·cases h
 split at h
 ·injection h with h _
  subst h;exact oU (by decide) (by simp) (by simp)
 split at h
 ·obtain⟨xs,p1,h1,h⟩:=Rs.ax h
  injection h with h _
  subst h;have hl:=eE h1
  have ha:=kn (Q:=fun nm=>ir nm=true) (fun f hf=>(List.mem_singleton.1 hf)▸fun p d x q hx=>by
   obtain⟨-,rfl,h3,h4⟩:=jb hx;unfold ir;rw[xH hw h3,h4];rfl) h1
  match xs,hl with
  | [y],_=>
   have:=ha y (by simp);refine oU ?_ (by simp) (by simp);show fV 2 y 0 0=true;unfold fV;rw[this];simp[Df]
 split at h
 ·cases h
 ·rename_i h0
  obtain⟨xs,p1,h1,h⟩:=Rs.ax h;injection h with h _
  subst h
  have hq:=kn (Q:=fun(y:Part)=>match y with| .inl e=>bE e=true| .inr t=>dy t=true) (fun f hf p d x q hx=>by
   rcases ml hf with rfl|rfl
   ·obtain⟨a,h2,rfl⟩:=Rs.lj hx
    exact hE _ _ _ _ h2
   ·obtain⟨a,h2,rfl⟩:=Rs.lj hx
    exact hT _ _ _ _ h2) h1
  have hcount:(cU xs).length=(cF (dn ws p).text).2.1∧(bY xs).length=(cF (dn ws p).text).2.2:=by
   unfold aT at h1;obtain⟨u,p1,h2,h1⟩:=Rs.ax h1;obtain⟨u2,p2,h3,h1⟩:=Rs.ax h1;obtain⟨ys,p3,h4,h1⟩:=Rs.ax h1;obtain⟨u3,p4,h5,h1⟩:=Rs.ax h1;injection h1 with h1 _
   subst h1;exact nc _ _ _ _ _ _ _ h4
  refine oU (by rw[hcount.1,hcount.2];exact wi _ h0) (fun y hy=>hq _ (uJ hy)) (fun y hy=>hq _ (uD hy))
theorem vM {ws:List Wd}(hw:wm ws):∀n,GC (ja ws n)
 |0=>fun _ _ _ _ h=>by(cases h)
 |n+1=>fun p d x q h=>Dm hw ((yk hw (n+1)).E 0) (vM hw n) p d x q h
theorem qV (l:List Nat)(hl:∀x∈l,x<256):wm (aP l).1:=fun x hx=>(pU l hl _ _ x hx).1
theorem uM {l:List Nat}(hl:∀x∈l,x<256){x:Tm}{q:Nat}(h:gF (aP l).1= .ok x q):dy x=true:=vM (qV l hl) _ _ _ _ _ h
def wo:List Nat:=[40,41,44,43,45,42,47,60,61,62,38,124,33]
theorem E2:∀x∈wo,x<256:=by decide
theorem BS:dO []=none:=by decide
theorem C0 (c:Nat)(r:List Nat)(h:c=60∨c=62∨c=33):dO (c::61::r)=some [c,61]:=by
 rcases h with rfl|rfl|rfl<;>simp[dO,eW]
theorem sign_one (c:Nat)(r:List Nat)(hc:c∈wo)(h:¬(r.head? =some 61∧(c=60∨c=62∨c=33))):dO (c::r)=some [c]:=by
 cases r with
 |nil=>
  simp[wo] at hc;rcases hc with rfl|rfl|rfl|rfl|rfl|rfl|rfl|rfl|rfl|rfl|rfl|rfl|rfl<;>simp[dO,eW]
 |cons d r=>
  simp at h;simp[wo] at hc;rcases hc with rfl|rfl|rfl|rfl|rfl|rfl|rfl|rfl|rfl|rfl|rfl|rfl|rfl<;>simp[dO,eW]<;>simp at h<;>simp[h]
theorem DL (c:Nat)(r:List Nat)(hc:c∉wo):dO (c::r)=none:=by
 refine yg _ _ ?_;intro j s' hs;have hm:=List.mem_of_getElem? hs;rw[decide_eq_false_iff_not];intro he;apply hc;simp[eW] at hm;rcases hm with rfl|rfl|rfl|rfl|rfl|rfl|rfl|rfl|rfl|rfl|rfl|rfl|rfl|rfl|rfl|rfl<;>(simp at he;simp[wo,he])
theorem Ef:wo.length=13:=rfl
theorem vr (l:List Nat)(w:World)(hl:∀x∈l,x<256)(hlen:l.length≤9223372036854775807):
  Calls Tryz.prog 155 #[.string (strOf l)] w fun e w'=>e= .returned (.string (strOf ((dO l).getD [])))∧Grow w w':=by
 have ab:=Below.refl w.heap.size w;have h0:0<l.length→l[0]? =some (l.getD 0 0):=fun h=>by rw[List.getD_eq_getElem?_getD,List.getElem?_eq_getElem h];rfl
 have h1:1<l.length→l[1]? =some (l.getD 1 0):=fun h=>by rw[List.getD_eq_getElem?_getD,List.getElem?_eq_getElem h];rfl
 have hb:∀j,l.getD j 0<256:=fun j=>by
  rcases Nat.lt_or_ge j l.length with h|h
  ·rw[List.getD_eq_getElem?_getD,List.getElem?_eq_getElem h];exact hl _ (List.getElem_mem h)
  ·rw[List.getD_eq_getElem?_getD,List.getElem?_eq_none h];simp
 have b0:=hb 0;have b1:=hb 1;clear hb;have hnil:l.length=0→dO l=none:=fun h=>by rw[List.eq_nil_of_length_eq_zero h];exact BS
 have htwo:2≤l.length→l.getD 1 0=61→(l.getD 0 0=60∨l.getD 0 0=62∨l.getD 0 0=33)→(dO l).getD []=l.take 2:=fun h h1 h2=>by
  rcases l with _|⟨c,_|⟨d,r⟩⟩
  ·simp at h
  ·simp at h
  ·have h1:d=61:=h1
   subst h1;rw[C0 c r h2];rfl
 have hone:0<l.length→l.getD 0 0∈wo→¬(2≤l.length∧l.getD 1 0=61∧(l.getD 0 0=60∨l.getD 0 0=62∨l.getD 0 0=33))→(dO l).getD []=l.take 1:=fun h h1 h2=>by
  rcases l with _|⟨c,r⟩
  ·simp at h
  ·rw[sign_one c r h1]
   ·rfl
   ·rintro⟨h3,h4⟩
    cases r with
    |nil=>cases h3
    |cons d r=>injection h3 with h3;subst h3;exact h2 ⟨by simp,rfl,h4⟩
 have hno:0<l.length→l.getD 0 0∉wo→(dO l).getD []=[]:=fun h h1=>by
  rcases l with _|⟨c,r⟩
  ·simp at h
  ·rw[DL c r h1];rfl
 generalize l.getD 0 0=c0 at *
 generalize l.getD 1 0=c1 at *
 refine Zs 49 Tryz.func155 ?_;refine aj ?_;refine Za ?_;refine dF 0 2 (aI (aj ?_));refine Zm ?_;refine Zv (aa.dh rfl rfl Tryz.underlying9) ?_;refine kZ ?_;refine Zm ?_;refine aw.start ?_;refine bw (fun hcx=>aa.move rfl rfl) ?_;refine Zn (fun hcx=>aa.cz (l:=l) (j:=1) (c:=c1) rfl rfl rfl Tryz.underlying9 rfl (h1 (by simp at hcx;omega)) b1) ?_;refine Zn (fun hcx=>aa.fh rfl rfl rfl) ?_;refine fQ ?_;refine Zm ?_;refine aw.start ?_;refine bw (fun hcx=>aa.move rfl rfl) ?_;refine Zn (fun hcx=>aa.cz (l:=l) (j:=0) (c:=c0) rfl rfl rfl Tryz.underlying9 rfl (h0 (by simp[ct] at hcx;omega)) b0) ?_;refine Zn (fun hcx=>aa.fh rfl rfl rfl) ?_;refine gq ?_;refine bw (fun hcx=>aa.move rfl rfl) ?_;refine Zn (fun hcx=>aa.cz (l:=l) (j:=0) (c:=c0) rfl rfl rfl Tryz.underlying9 rfl (h0 (by simp[ct] at hcx;omega)) b0) ?_;refine Zn (fun hcx=>aa.fh rfl rfl rfl) ?_;refine aw.zm rfl rfl rfl rfl rfl rfl rfl rfl rfl rfl rfl ?_;refine gq ?_;refine bw (fun hcx=>aa.move rfl rfl) ?_;refine Zn (fun hcx=>aa.cz (l:=l) (j:=0) (c:=c0) rfl rfl rfl Tryz.underlying9 rfl (h0 (by simp[ct] at hcx;omega)) b0) ?_;refine Zn (fun hcx=>aa.fh rfl rfl rfl) ?_;refine aw.zm rfl rfl rfl rfl rfl rfl rfl rfl rfl rfl rfl ?_;refine fQ ?_;refine bn 0 2 27 (Zt ?_);refine Cd.cond rfl (fun h=> ?_) (fun h=> ?_)
 ·simp at h
  have e:=htwo (by omega) (by omega) (by omega);refine aj ?_;refine Zm ?_;refine Zv (aa.sliceTo (j:=2) rfl rfl rfl Tryz.underlying9 rfl (by omega)) ?_;refine Za ?_;refine bn 0 2 27 (Zt (Cd.ret (ae.af ?_)));refine aZ ?_;exact⟨by rw[e],ab⟩
 ·have hn2:¬(2≤l.length∧c1=61∧(c0=60∨c0=62∨c0=33)):=by
   simp at h;omega
  have hone:=fun a b=>hone a b hn2;clear h htwo hn2 h1;refine Cd.skip (aB ?_);refine Za ?_;refine aQ 0 2 3 27 (aI (aj ?_));refine Za ?_;refine aO 0 2 3 4 27 (Zt (Cd.block ?_));refine Cd.loop (σ:=Nat) (fun k=>[(0, .string (strOf l)),(3, .string (strOf wo)),(4, .int .i64 (k:Int))]) (fun k wr=>k≤13∧(∀j c,j<k→wo[j]? =some c→0<l.length→c≠c0)∧Below w.heap.size w wr) (fun k=>13-k) 0 ⟨by omega,fun j c hj=>absurd hj (by omega),ab⟩ ⟨rfl,rfl,rfl,trivial⟩ ?_;clear ab;rintro k wr ⟨hk,hns,ab⟩;have hsl:=Ef;refine Cd.seq (aj ?_);refine Zm ?_;refine Zm ?_;refine Zv (aa.dh rfl rfl Tryz.underlying9) ?_;refine eI ?_;refine aQ 0 3 4 33 (Zt ?_);refine Cd.ak rfl (fun hc=> ?_) (fun hc=> ?_)
  ·obtain⟨c,hcc⟩:∃c,wo[k]? =some c:=⟨_,List.getElem?_eq_getElem (show k<wo.length by omega)⟩
   have hc256:=E2 c (List.mem_of_getElem? hcc)
   have hns2:∀j d,j<k+1→wo[j]? =some d→(0<l.length→c≠c0)→0<l.length→d≠c0:=fun j d hj hd hcn h=>by
    rcases Nat.lt_or_ge j k with h2|h2
    ·exact hns j d h2 hd h
    ·obtain rfl:j=k:=by omega
     rw[hcc] at hd;injection hd with hd
     subst hd;exact hcn h
   by_cases hl0:0<l.length
   ·have h0:=h0 hl0
    have hone:=hone hl0;refine Cd.skip (aI (Cd.block (Cd.seq ?_)));refine ff 11 ?_;intro w1 hw1 zw1;replace ab:=ab.step hw1;have zbel:=ab.size;refine cf ?_;refine Zd (fun w hG=>aa.dh rfl rfl Tryz.underlying9) ?_;refine Zd (fun w hG=>(aa.gtr rfl rfl rfl).lK ((by omega))) ?_;refine cf ?_;refine cn (fun w hG=>aa.move rfl rfl) ?_;refine cn (fun w hG=>aa.cz (l:=l) (j:=0) (c:=c0) rfl rfl rfl Tryz.underlying9 rfl h0 b0) ?_;refine cn (fun w hG=>aa.move rfl rfl) ?_;refine cn (fun w hG=>aa.move rfl rfl) ?_;refine cn (fun w hG=>aa.cz (l:=wo) (j:=k) rfl rfl rfl Tryz.underlying9 rfl hcc hc256) ?_;refine cn (fun w hG=>aa.fh rfl rfl rfl) ?_;refine Zd (fun w hG=>aa.cQ rfl rfl rfl) ?_;refine Dr.nil ?_;refine bb.done (F':=[(0,_),(3,_),(4,_),(33,_),(46,_)]) rfl ⟨rfl,rfl,rfl,rfl,rfl,trivial⟩ ?_;intro w2 hw2 fw2;replace ab:=ab.step hw2;refine aO 0 3 4 33 46 (Zt ?_);refine Cd.ak rfl (fun hc=> ?_) (fun hc=> ?_)
    ·obtain rfl:c=c0:=by omega
     refine aj ?_;refine Zm ?_;refine Zv (aa.sliceTo (j:=1) rfl rfl rfl Tryz.underlying9 rfl (by omega)) ?_;refine Za ?_;refine aY 0 2 3 4 33 46 (Zt (Cd.ret (ae.ag (ae.af (ae.aX (ae.ag (ae.af ?_)))))));refine aZ ?_;exact⟨by rw[hone (List.mem_of_getElem? hcc)],ab⟩
    ·have hne:c≠c0:=by omega
     refine Cd.skip (ae.ah (eh ?_));refine Zm ?_;refine cG ?_;refine Za ?_;refine aO 0 3 4 33 46 ?_;exact ae.round (k+1) ⟨rfl,rfl,rfl,trivial⟩ ⟨by omega,fun j d hj hd=>hns2 j d hj hd (fun _=>hne),ab⟩ (by omega)
   ·skip
    refine Cd.skip (aI (Cd.block (Cd.seq ?_)));refine ff 11 ?_;intro w1 hw1 zw1;replace ab:=ab.step hw1;have zbel:=ab.size;refine cf ?_;refine Zd (fun w hG=>aa.dh rfl rfl Tryz.underlying9) ?_;refine Zd (fun w hG=>(aa.gtr rfl rfl rfl).iC ((by omega))) ?_;refine cf ?_;refine dm ?_;refine dm ?_;refine dm ?_;refine dm ?_;refine dm ?_;refine dm ?_;refine Zd (fun w hG=>aa.bq rfl rfl rfl) ?_;refine Dr.nil ?_;refine bb.done (F':=[(0,_),(3,_),(4,_),(33,_),(46,_)]) rfl ⟨rfl,rfl,rfl,rfl,rfl,trivial⟩ ?_;intro w2 hw2 fw2;replace ab:=ab.step hw2;refine aO 0 3 4 33 46 (Zt ?_);refine Cd.aM rfl rfl ?_;refine Cd.skip (ae.ah (eh ?_));refine Zm ?_;refine cG ?_;refine Za ?_;refine aO 0 3 4 33 46 ?_;exact ae.round (k+1) ⟨rfl,rfl,rfl,trivial⟩ ⟨by omega,fun j d hj hd=>hns2 j d hj hd (fun h=>absurd h hl0),ab⟩ (by omega)
  ·have hnn:(dO l).getD []=[]:=by
    rcases Nat.eq_zero_or_pos l.length with h|h
    ·rw[hnil h];rfl
    ·refine hno h fun hm=> ?_
     obtain⟨j,hj,he⟩:=List.getElem_of_mem hm;exact hns j c0 (by omega) (by rw[List.getElem?_eq_getElem hj,he]) h rfl
   refine Cd.exit (ae.aC (ae.aA (ae.ay (aB ?_))));refine Za ?_;refine aO 0 2 3 4 33 (Zt (Cd.ret ?_));refine aZ ?_;exact⟨by rw[hnn];rfl,ab⟩
def De (l:List Int):List Value:=l.map fun z=> .int .i64 z
theorem FP {l:List Int}{j:Nat}(h:j<l.length):(De l).toArray[j]? =some (.int .i64 (l.getD j 0)):=by simp[De,List.getD_eq_getElem?_getD,List.getElem?_eq_getElem h]
theorem E4 (l:List Int)(j:Nat)(d:Int):(De l).toArray.setIfInBounds j (.int .i64 d)=(De (l.set j d)).toArray:=by
 apply Array.ext';simp[De,List.map_set]
theorem te (l:List Nat)(hl:∀x∈l,x<256)(h:l.length≤4): -100000000≤ef l∧ef l≤100000000:=by
 rcases l with _|⟨c0,_|⟨c1,_|⟨c2,_|⟨c3,_|⟨x,l⟩⟩⟩⟩⟩<;>simp at h hl<;>simp[ef]<;>omega
theorem kL (l:List Nat)(w:World)(hl:∀x∈l,x<256)(hlen:l.length≤9223372036854775807):Calls Tryz.prog 153 #[.string (strOf l)] w fun e w'=>e= .returned (.int .i64 (if df l then eZ l else -1))∧Grow w w':=by
 have ab:=Below.refl w.heap.size w;refine Zs 58 Tryz.func153 ?_;refine aj ?_;refine Za ?_;refine dF 0 2 (aI (aj ?_));refine Zm ?_;refine Zv (aa.dh rfl rfl Tryz.underlying9) ?_;refine sJ ?_;refine bn 0 2 9 (Zt ?_);refine Cd.cond rfl (fun h=> ?_) (fun h=> ?_)
 ·have hno:df l=false:=by
   unfold df;rw[decide_eq_false (by simp at h;omega)];rfl
  refine aj ?_;refine Za ?_;refine bn 0 2 9 (Zt (Cd.ret (ae.af ?_)));refine aZ ?_;exact⟨bt (int_eq (by rw[hno];rfl)),ab⟩
 have h10:l.length=10:=by simp at h;omega
 clear h;have hlaw:=D2 l h10;have hten:=BL l h10;refine Cd.skip (aB ?_);refine Seq.slice (vs:=[_,_,_]) (s:=1) rfl rfl rfl Tryz.underlying96 (by kernel_rfl) (hH) (by omega) (by omega) ⟨rfl,rfl,rfl,trivial⟩ rfl rfl rfl ?_;intro g10 w1 n10;have e10:=Nat.le_trans ab.size n10.ge;replace ab:=ab.step n10.below;have k10:=n10.an;refine Za ?_;refine aQ 0 2 3 9 (aI (aj ?_));refine Za ?_;refine aO 0 2 3 4 9 (Zt (Cd.block ?_));have hk0:aH w1 g10 3 (De (ig l 0)).toArray:=k10
 refine Cd.loop (σ:=Nat) (fun k=>[(0, .string (strOf l)),(3, .slice (some ⟨g10,0,none⟩) 3 3),(4, .int .i64 (k:Int))])
  (fun k wr=>k≤10∧Below w.heap.size w wr∧aH wr g10 3 (De (ig l k)).toArray) (fun k=>10-k) 0 ⟨by omega,ab,hk0⟩ ⟨rfl,rfl,rfl,trivial⟩ ?_
 clear hk0;clear ab k10;rintro k wr ⟨hk,ab,k10⟩;have hrl:=vI l k;have hrb:=Dz l hl k
 have hP:(10:Int)^k≤10^10:=by
  have:(10:Nat)^k≤10^10:=Nat.pow_le_pow_right (by omega) hk;have e:((10^k:Nat):Int)=(10:Int)^k:=by simp
  omega
 have hi3:lR k<3:=by unfold lR;split;omega;split<;>omega
 refine Cd.seq (aj ?_);refine Zm ?_;refine eI ?_;refine aQ 0 3 4 12 (Zt ?_);refine Cd.ak rfl (fun hc=> ?_) (fun hc=> ?_)
 ·obtain⟨c,hc⟩:∃c,l[k]? =some c:=⟨_,List.getElem?_eq_getElem (show k<l.length by omega)⟩
  have hc256:=hl c (List.mem_of_getElem? hc)
  have hst:ig l (k+1)=if k=4∨k=7 then ig l k else(ig l k).set (lR k) (10*(ig l k).getD (lR k) 0+(c:Int)-48):=by
   rw[ig,List.getD_eq_getElem?_getD (l:=l),hc];rfl
  have hx:(De (ig l k)).toArray[lR k]? =some (.int .i64 ((ig l k).getD (lR k) 0)):=FP (by omega)
  have hxm:(ig l k).getD (lR k) 0∈ig l k:=by
   rw[List.getD_eq_getElem?_getD,List.getElem?_eq_getElem (by omega)];exact List.getElem_mem (by omega)
  have hxb:=hrb _ hxm
  generalize (ig l k).getD (lR k) 0=x at *
  refine Cd.skip (aI (Cd.block (aj ?_)));refine Za ?_;refine aO 0 3 4 5 12 (Zt ?_);refine Cd.lB (σ:=Unit) (fun _=>[(0, .string (strOf l)),(3, .slice (some ⟨g10,0,none⟩) 3 3),(4, .int .i64 (k:Int)),(5, .int .i64 (if 4<k then 1 else 0))]) (fun _ wr'=>Below w.heap.size w wr'∧aH wr' g10 3 (De (ig l k)).toArray) ?_ ?_
  ·skip
   refine aj ?_;refine Zm ?_;refine uV ?_;refine aY 0 3 4 5 12 16 (Zt ?_);refine Cd.ak rfl (fun hc=> ?_) (fun hc=> ?_)
   ·skip
    refine Zr ?_;refine Za ?_;refine aY 0 3 4 5 12 16 ?_;exact ae.join () ⟨rfl,rfl,rfl,congrArg (fun x:Int=>some (Value.int .i64 x)) (by rw[if_pos (by omega)]),trivial⟩ ⟨ab,k10⟩
   ·skip
    refine Cd.skip ?_;exact ae.join () ⟨rfl,rfl,rfl,congrArg (fun x:Int=>some (Value.int .i64 x)) (by rw[if_neg (by omega)]),trivial⟩ ⟨ab,k10⟩
  clear ab k10;rintro⟨⟩ wr ⟨ab,k10⟩;refine Cd.lB (σ:=Unit) (fun _=>[(0, .string (strOf l)),(3, .slice (some ⟨g10,0,none⟩) 3 3),(4, .int .i64 (k:Int)),(5, .int .i64 (lR k:Int))]) (fun _ wr'=>Below w.heap.size w wr'∧aH wr' g10 3 (De (ig l k)).toArray) ?_ ?_
  ·skip
   refine aj ?_;refine Zm ?_;refine uV ?_;refine aO 0 3 4 5 18 (Zt ?_);refine Cd.ak rfl (fun hc=> ?_) (fun hc=> ?_)
   ·skip
    refine Zr ?_;refine Za ?_;refine aO 0 3 4 5 18 ?_;exact ae.join () ⟨rfl,rfl,rfl,congrArg (fun x:Int=>some (Value.int .i64 x)) (by unfold lR;(repeat' split)<;>omega),trivial⟩ ⟨ab,k10⟩
   ·skip
    refine Cd.skip ?_;exact ae.join () ⟨rfl,rfl,rfl,congrArg (fun x:Int=>some (Value.int .i64 x)) (by unfold lR;(repeat' split)<;>omega),trivial⟩ ⟨ab,k10⟩
  clear ab k10;rintro⟨⟩ wr ⟨ab,k10⟩
  generalize lR k=J at *
  refine aj ?_;refine Zm ?_;refine sJ ?_;refine Zm ?_;refine aw.start ?_;refine bw (fun hcx=>aa.move rfl rfl) ?_;refine Zn (fun hcx=>aa.cW rfl rfl rfl) ?_;refine fQ ?_;refine aO 0 3 4 5 24 (Zt ?_);refine Cd.cond rfl (fun h=> ?_) (fun h=> ?_)
  ·rw[if_neg (by simp at h;omega)] at hst
   clear h;refine ff 14 ?_;intro w2 hw2 zw2;replace ab:=ab.step hw2;replace k10:=k10.step hw2;have zbel:=ab.size;have zlt:=k10.lt;refine cf ?_;refine cf ?_;refine cf ?_;refine cf ?_;refine Zd (fun w hG=>aa.dS rfl rfl rfl Tryz.underlying96 (by kernel_rfl) (j:=J) (by omega) (by omega)) ?_;refine Zd (fun w hG=>aa.au rfl rfl Tryz.underlying3 rfl (k10.step hG) hx) ?_;refine Zd (fun w hG=>aa.rF rfl rfl rfl (by omega) (by omega)) ?_;refine cf ?_;refine cf ?_;refine Zd (fun w hG=>aa.cz (l:=l) (j:=k) rfl rfl rfl Tryz.underlying9 rfl hc hc256) ?_;refine Zd (fun w hG=>aa.dJ rfl rfl Tryz.underlying5 Tryz.underlying3 (iO (by omega) (by omega))) ?_;refine Zd (fun w hG=>aa.kA rfl rfl rfl (by omega) (by omega)) ?_;refine Zd (fun w hG=>aa.Ai rfl rfl rfl (by omega) (by omega)) ?_;refine Zd (fun w hG=>aa.dS rfl rfl rfl Tryz.underlying96 (by kernel_rfl) (j:=J) (by omega) (by omega)) ?_;refine Dr.nil ?_;refine bb.done (F':=[(0,_),(3,_),(4,_),(5,_),(24,_),(37,_),(38,_)]) rfl ⟨rfl,rfl,rfl,rfl,rfl,rfl,rfl,trivial⟩ ?_;intro w3 hw3 fw3;replace ab:=ab.step hw3;replace k10:=k10.step hw3;refine Seq.ly rfl rfl rfl (by kernel_rfl) rfl rfl k10 (hx) rfl rfl ?_;intro w4 pw4;replace ab:=ab.put k10 pw4 e10;replace k10:=pw4.an;rw[E4] at k10;refine aO 0 3 4 5 24 (ae.ah (eh ?_));refine Zm ?_;refine cG ?_;refine Za ?_;refine aO 0 3 4 5 24 ?_;exact ae.round (k+1) ⟨rfl,rfl,rfl,trivial⟩ ⟨by omega,ab,by rw[hst];exact k10⟩ (by omega)
  ·rw[if_pos (by simp at h;omega)] at hst
   refine Cd.skip (ae.ah (eh ?_));refine Zm ?_;refine cG ?_;refine Za ?_;refine aO 0 3 4 5 24 ?_;exact ae.round (k+1) ⟨rfl,rfl,rfl,trivial⟩ ⟨by omega,ab,by rw[hst];exact k10⟩ (by omega)
 ·obtain rfl:k=10:=by omega
  clear hP hrb;rw[hten] at k10;clear hten hrl;have hY:=te (l.take 4) (ji hl 4) (by rw[List.length_take];omega);have hM:=te ((l.take 7).drop 5) (j3 (ji hl 7) 5) (by rw[List.length_drop,List.length_take];omega);have hD:=te ((l.take 10).drop 8) (j3 (ji hl 10) 8) (by rw[List.length_drop,List.length_take];omega)
  generalize ef (l.take 4)=Y at *
  generalize ef ((l.take 7).drop 5)=M at *
  generalize ef ((l.take 10).drop 8)=D at *
  refine Cd.exit (ae.aC (ae.aA (ae.ay (aI ?_))));refine Cd.eB (F':=[(0,_),(3,_),(4,_),(12,_)]) ⟨rfl,rfl,rfl,rfl,trivial⟩ ?_;refine ff 11 ?_;intro w2 hw2 zw2;replace ab:=ab.step hw2;replace k10:=k10.step hw2;have zbel:=ab.size;have zlt:=k10.lt;refine cf ?_;refine Zd (fun w hG=>aa.dS rfl rfl rfl Tryz.underlying96 (by kernel_rfl) (j:=0) rfl (by omega)) ?_;refine dZ Tryz.underlying3 k10 ?_;refine cf ?_;refine Zd (fun w hG=>aa.dS rfl rfl rfl Tryz.underlying96 (by kernel_rfl) (j:=1) rfl (by omega)) ?_;refine dZ Tryz.underlying3 k10 ?_;refine cf ?_;refine Zd (fun w hG=>aa.dS rfl rfl rfl Tryz.underlying96 (by kernel_rfl) (j:=2) rfl (by omega)) ?_;refine dZ Tryz.underlying3 k10 ?_;refine Dr.cJ rfl (fun w=>Ze Tryz.func197) rfl (fun w hG=>tG Y M D _ ⟨by omega,by omega⟩ ⟨by omega,by omega⟩ ⟨by omega,by omega⟩) ?_;refine Zd (fun w hG=>aa.assign rfl rfl) ?_;refine Dr.nil ?_;refine bb.done (F':=[(0,_),(3,_),(4,_),(6,_),(12,_)]) rfl ⟨rfl,rfl,rfl,rfl,rfl,trivial⟩ ?_;intro w3 hw3 fw3;replace ab:=ab.step hw3;replace k10:=k10.step hw3
  have hzn:∃n:Int,(if fZ Y M D=true then fF Y M D else -1)=n∧ -1≤n∧n≤2932896∧(fZ Y M D=true∧n=fF Y M D∧0≤n∨fZ Y M D=false∧n<0):=by
   cases ho:fZ Y M D with
   |true=>
    obtain⟨-,-,-,-,-,-,-,-,a,b⟩:=nv ho;exact⟨_,rfl,by rw[if_pos rfl];omega,by rw[if_pos rfl];omega, .inl ⟨rfl,by rw[if_pos rfl],by rw[if_pos rfl];omega⟩⟩
   |false=>exact⟨-1,rfl,by omega,by omega, .inr ⟨rfl,by omega⟩⟩
  obtain⟨n,hn,hn1,hn2,hn3⟩:=hzn;rw[hn]
  have hpr:∀W,0≤n→Calls Tryz.prog 111 #[.int .i64 n] W fun e w'=>e= .returned (.string (strOf (fW Y.toNat M.toNat D.toNat)))∧Grow W w':=by
   intro W h;rcases hn3 with ⟨h1,h2,-⟩|⟨-,h2⟩
   ·rw[h2];exact kK Y M D W h1
   ·omega
  have hpl:=oA Y.toNat M.toNat D.toNat
  generalize fW Y.toNat M.toNat D.toNat=T at *
  refine aO 0 3 4 6 12 (aI (aj ?_));refine Zm ?_;refine eI ?_;refine Zm ?_;refine aw.start ?_;refine bw (fun hcx=>aa.move rfl rfl) ?_;refine aw.bU rfl rfl rfl rfl rfl rfl rfl (fun hcx=>Ze Tryz.func111) (fun hcx=>hpr _ (by simp at hcx;omega)) ?_;intro w4 hw4;replace ab:=ab.step hw4;replace k10:=k10.step hw4;refine gq ?_;refine Zn (fun hcx=>aa.fT (a:=T) (b:=l) rfl rfl rfl hpl hl) ?_;refine fg ?_;refine aY 0 3 4 6 12 56 (Zt ?_);refine Cd.cond rfl (fun h=> ?_) (fun h=> ?_)
  ·have hno:df l=false:=by
    rw[Bool.eq_false_iff];intro h2;obtain⟨h3,h4⟩:=hlaw.1.1 h2;simp at h;rcases hn3 with ⟨-,-,h5⟩|⟨h5,-⟩
    ·rcases h with h|h
     ·omega
     ·exact h h4
    ·rw[h5] at h3;cases h3
   refine aj ?_;refine Za ?_;refine ba 0 2 3 4 6 12 56 (Zt (Cd.ret (ae.af ?_)));refine aZ ?_;exact⟨bt (int_eq (by rw[hno];rfl)),ab⟩
  ·have hyes:df l=true∧n=fF Y M D:=by
    simp at h;rcases hn3 with ⟨h5,h6,-⟩|⟨h5,h6⟩
    ·exact⟨hlaw.1.2 ⟨h5,h.2⟩,h6⟩
    ·omega
   refine Cd.skip (aB ?_);refine Zm ?_;refine Za ?_;refine ba 0 2 3 4 6 12 56 (Zt (Cd.ret ?_));refine aZ ?_;exact⟨bt (int_eq (by rw[if_pos hyes.1,hlaw.2 hyes.1];exact hyes.2)),ab⟩
theorem aR:bW Tryz.prog 211=some (some (.agg #[.int .i64 0, .string {data:= #[]}, .int .i64 0, .int .i64 0])):=by kernel_rfl
theorem fP (a c d:Int)(s:ByteArray)(w:World):(Instr.build 211 #[(0, .int .i64 a),(1, .string s),(2, .int .i64 c),(3, .int .i64 d)]).run Tryz.prog w= .ok (.agg #[.int .i64 a, .string s, .int .i64 c, .int .i64 d]) w:=by
 have hu:=Tryz.underlying211
 go_simp
theorem qw (p:Nat→Bool):∀l:List Nat,runN p (l.take (runN p l))=runN p l
 | []=>rfl
 |c::l=>by
  rw[eu];split
  ·rename_i h
   rw[List.take_succ_cons,eu,if_pos h,qw p l]
  ·rfl
theorem y0 (c:Nat)(r:List Nat)(hc:kT c=true):cS ((c::r).take (runN aL (c::r)))=decide (runN aL (c::r)≤16):=by
 have hp:aL c=true:=by unfold aL;rw[hc];rfl
 have h1:=qw aL (c::r);have h2:((c::r).take (runN aL (c::r))).length=runN aL (c::r):=by have:=gR aL (c::r);rw[List.length_take];omega
 have h3:0<runN aL (c::r):=tl rfl hp
 have h4:((c::r).take (runN aL (c::r))).getD 0 0=c:=by
  obtain⟨n,hn⟩:∃n,runN aL (c::r)=n+1:=⟨runN aL (c::r)-1,by omega⟩;rw[hn];rfl
 have h5:(c::r).take (runN aL (c::r))≠ []:=fun h=>by rw[h] at h2;simp at h2;omega
 unfold cS;rw[h1,h2,h4,hc,decide_eq_true h5];simp
theorem D4 (c:Nat)(r:List Nat)(h:iv (c::r)=true):fy c=true:=by
 unfold iv at h;simp at h;have h:=h.2;unfold df at h;simp only[Bool.and_eq_true] at h;have h:=(nU h.2).1;unfold er at h;split at h
 ·rename_i ha
  exact List.all_eq_true.1 ha c (by simp)
 ·omega
theorem Am {l:List Nat}{p c:Nat}(hc:l[p]? =some c)(hb:fS c=true):p+bT (l.drop p)=p+1+bT (l.drop (p+1)):=by
 have hp:p<l.length:=(List.getElem?_eq_some_iff.1 hc).1;have e:l.drop p=c::l.drop (p+1):=by rw[List.drop_eq_getElem_cons hp];congr;rw[List.getElem?_eq_getElem hp] at hc;injection hc
 rw[e,je,if_pos hb];omega
theorem zT {l:List Nat}{p:Nat}(hc:l[p]? =some 35):p+bT (l.drop p)=p+runN eP (l.drop p)+bT (l.drop (p+runN eP (l.drop p))):=by
 have hp:p<l.length:=(List.getElem?_eq_some_iff.1 hc).1;have e:l.drop p=35::l.drop (p+1):=by rw[List.drop_eq_getElem_cons hp];congr;rw[List.getElem?_eq_getElem hp] at hc;injection hc
 have h:=je 35 (l.drop (p+1));rw[if_neg (by decide),if_pos rfl,←e,List.drop_drop] at h;omega
theorem Ci {l:List Nat}{p c:Nat}(hc:l[p]? =some c)(hb:fS c=false)(h35:c≠35):bT (l.drop p)=0:=by
 have hp:p<l.length:=(List.getElem?_eq_some_iff.1 hc).1;have e:l.drop p=c::l.drop (p+1):=by rw[List.drop_eq_getElem_cons hp];congr;rw[List.getElem?_eq_getElem hp] at hc;injection hc
 rw[e,je,if_neg (by rw[hb];simp),if_neg h35]
theorem C8 {l:List Nat}{p c:Nat}(hc:l[p]? =some c):l.drop p=c::l.drop (p+1):=by
 have hp:p<l.length:=(List.getElem?_eq_some_iff.1 hc).1;rw[List.drop_eq_getElem_cons hp];congr;rw[List.getElem?_eq_getElem hp] at hc;injection hc
theorem oh {f p:Nat}{l:List Nat}(h:p<l.length)(hn:gZ (l.drop p)=none):gD (f+1) l p=([],some p):=by rw[gN f l p h,hn]
theorem oI {f p:Nat}{l t:List Nat}{k n:Int}(h:p<l.length)(hn:gZ (l.drop p)=some (k,t,n)):gD (f+1) l p=(⟨k,t,n,p⟩::(gD f l (p+t.length+bT (l.drop (p+t.length)))).1,(gD f l (p+t.length+bT (l.drop (p+t.length)))).2):=by rw[gN f l p h,hn]
theorem tK (l:List Nat)(w:World)(hl:∀x∈l,x<256)(hlen:l.length≤4000):
  Calls Tryz.prog 122 #[.string (strOf l)] w fun e w'=>Grow w w'∧((∃p:Nat,(aP l).2=some p∧e= .returned (.tuple #[.slice none 0 0, .int .i64 (p:Int)]))∨
   ((aP l).2=none∧∃v,e= .returned (.tuple #[v, .int .i64 (-1)])∧Own w' w.heap.size 211 4 v (aP l).1.length (dg (aP l).1))):=by
 have ab:=Below.refl w.heap.size w;refine Zs 161 Tryz.func122 ?_;refine aj ?_;refine Za ?_;refine Za ?_;refine bn 0 2 3 (aB ?_);refine Za ?_;refine aQ 0 2 3 4 (aB ?_);refine Za ?_;refine aO 0 2 3 4 5 (aI (Cd.block ?_));have own:ka w w.heap.size 211 4 (.slice none 0 0) 0 []:=⟨Own.nil _ _ _ _⟩
 refine Cd.loop (σ:=Nat × Value × List Wd) (fun s=>[(0, .string (strOf l)),(4,s.2.1),(5, .int .i64 (s.1:Int))])
  (fun s wr=>s.1≤l.length∧s.2.2.length≤s.1∧(∃f,l.length+1≤f+s.1∧aP l=(s.2.2++(gD f l (s.1+bT (l.drop s.1))).1,(gD f l (s.1+bT (l.drop s.1))).2))∧Below w.heap.size w wr∧ka wr w.heap.size 211 4 s.2.1 s.2.2.length (dg s.2.2)) (fun s=>l.length-s.1) (0, .slice none 0 0,[])
  ⟨Nat.zero_le _,by simp,⟨l.length+1,by dsimp only;omega,by dsimp only;rw[Nat.zero_add];rfl⟩,ab,own⟩ ⟨rfl,rfl,rfl,trivial⟩ ?_
 clear ab;clear own;rintro⟨p,v,ws⟩ wr ⟨hp,hwp,⟨f,hf,hall⟩,ab,own⟩;dsimp only at hp hwp hf hall own⊢;refine Cd.seq (aj ?_);refine Zm ?_;refine Zm ?_;refine Zv (aa.dh rfl rfl Tryz.underlying9) ?_;refine eI ?_;refine aQ 0 4 5 14 (Zt ?_);refine Cd.ak rfl (fun hc=> ?_) (fun hc=> ?_)
 ·obtain⟨c,hcc⟩:∃c,l[p]? =some c:=⟨_,List.getElem?_eq_getElem (show p<l.length by omega)⟩
  have hc256:=hl c (List.mem_of_getElem? hcc);refine Cd.skip (Zt (Cd.block (aj ?_)));refine Zm ?_;refine Zm ?_;refine Zv (aa.cz (l:=l) (j:=p) rfl rfl rfl Tryz.underlying9 rfl hcc hc256) ?_;refine Za ?_;refine aO 0 4 5 6 14 (aI (aj ?_));refine Zm ?_;refine bC ?_;refine Zm ?_;refine aw.start ?_;refine bw (fun hcx=>aa.move rfl rfl) ?_;refine Zn (fun hcx=>aa.fh rfl rfl rfl) ?_;refine fg ?_;refine Zm ?_;refine aw.start ?_;refine bw (fun hcx=>aa.move rfl rfl) ?_;refine Zn (fun hcx=>aa.fh rfl rfl rfl) ?_;refine fg ?_;refine aY 0 4 5 6 14 27 (Zt ?_);refine Cd.cond rfl (fun h=> ?_) (fun h=> ?_)
  ·have hbb:fS c=true:=by unfold fS;simp at h⊢;omega
   rw[Am hcc hbb] at hall;refine aj ?_;refine Zm ?_;refine cG ?_;refine Za ?_;refine aY 0 4 5 6 14 27 (Zt (Cd.exit (ae.aC (ae.ay ?_))));exact ae.round (p+1,v,ws) ⟨rfl,rfl,rfl,trivial⟩ ⟨by dsimp only;omega,by dsimp only;omega,⟨f,by dsimp only;omega,hall⟩,ab,own⟩ (by dsimp only;omega)
  have hbb:fS c=false:=by unfold fS;simp at h⊢;omega
  clear h;refine Cd.skip (aI (aj ?_));refine Zm ?_;refine bC ?_;refine ba 0 4 5 6 14 27 31 (Zt ?_);refine Cd.ak rfl (fun hc=> ?_) (fun hc=> ?_)
  ·obtain rfl:c=35:=by omega
   have hrl:=gR eP (l.drop p);rw[List.length_drop] at hrl;have hr0:0<runN eP (l.drop p):=by rw[C8 hcc,eu,if_pos (by decide)];omega
   rw[zT hcc] at hall;refine Cd.seq (Cd.block ?_)
   refine Cd.loop (σ:=Nat) (fun j=>[(0, .string (strOf l)),(4,v),(5, .int .i64 ((p+j:Nat):Int))])
    (fun j wr=>j≤runN eP (l.drop p)∧Below w.heap.size w wr∧ka wr w.heap.size 211 4 v ws.length (dg ws)) (fun j=>l.length-j) 0 ⟨Nat.zero_le _,ab,own⟩ ⟨rfl,rfl,rfl,trivial⟩ ?_
   clear ab own;rintro j wr2 ⟨hj,ab,own⟩
   have hcj:p+j<l.length→∃d,l[p+j]? =some d∧d<256∧(eP d=true↔j<runN eP (l.drop p)):=fun h=>by
    have hd:l[p+j]? =some l[p+j]:=List.getElem?_eq_getElem h;exact⟨_,hd,hl _ (List.getElem_mem h),mu eP (l.drop p) j hj _ (by rw[List.getElem?_drop];exact hd)⟩
   generalize runN eP (l.drop p)=R at *
   have hcd:∃d,(p+j<l.length→l[p+j]? =some d)∧d<256∧(p+j<l.length→(d≠10↔j<R)):=by
    rcases Nat.lt_or_ge (p+j) l.length with h|h
    ·obtain⟨d,h1,h2,h3⟩:=hcj h
     exact⟨d,fun _=>h1,h2,fun _=>by rw[←h3];unfold eP;simp⟩
    ·exact⟨0,fun h2=>absurd h2 (by omega),by omega,fun h2=>absurd h2 (by omega)⟩
   obtain⟨d,hd1,hd2,hd3⟩:=hcd;clear hcj;refine Cd.seq (aj ?_);refine Zm ?_;refine Zm ?_;refine Zv (aa.dh rfl rfl Tryz.underlying9) ?_;refine eI ?_;refine Zm ?_;refine aw.start ?_;refine bw (fun hcx=>aa.move rfl rfl) ?_;refine gq ?_;refine Zn (fun hcx=>aa.cz (l:=l) (j:=p+j) (c:=d) rfl rfl rfl Tryz.underlying9 rfl (hd1 (by simp at hcx;omega)) hd2) ?_;refine Zn (fun hcx=>aa.cW rfl rfl rfl) ?_;refine fQ ?_;refine aQ 0 4 5 41 (Zt ?_);refine Cd.cond rfl (fun h=> ?_) (fun h=> ?_)
   ·have hlt:p+j<l.length∧j<R:=by
     simp at h;have:=hd3 (by omega);exact⟨by omega,this.1 (by omega)⟩
    refine Cd.skip (Zt (Cd.block (Zr ?_)));refine Zm ?_;refine cG ?_;refine Za ?_;refine aQ 0 4 5 41 (ae.ah ?_);exact ae.round (j+1) ⟨rfl,rfl,congrArg (fun x:Int=>some (Value.int .i64 x)) (show((p+j:Nat):Int)+1=((p+(j+1):Nat):Int) by omega),trivial⟩ ⟨by omega,ab,own⟩ (by omega)
   ·obtain rfl:j=R:=by
     simp at h;rcases Nat.lt_or_ge (p+j) l.length with h2|h2
     ·have:=hd3 h2
      rcases Nat.lt_or_ge j R with h3|h3
      ·have:=this.2 h3
       omega
      ·omega
     ·omega
    refine Cd.exit (ae.aC (ae.aA (ae.ay (Zt (Cd.exit (ae.aC (ae.ay ?_)))))));exact ae.round (p+j,v,ws) ⟨rfl,rfl,rfl,trivial⟩ ⟨by dsimp only;omega,by dsimp only;omega,⟨f,by dsimp only;omega,hall⟩,ab,own⟩ (by dsimp only;omega)
  have hbn:=Ci hcc hbb (by omega);rw[hbn,Nat.add_zero] at hall;have hdrop:=C8 hcc;have hdn:(l.drop p).length=l.length-p:=List.length_drop;have hdl:=j3 hl p;have hD:(l.take (p+10)).drop p=(l.drop p).take 10:=by rw[List.drop_take,Nat.add_sub_cancel_left]
  have hDl:=ji hdl 10;have hDn:((l.drop p).take 10).length≤9223372036854775807:=by rw[List.length_take];omega
  have hz0:df ((l.drop p).take 10)=true→0≤eZ ((l.drop p).take 10)∧eZ ((l.drop p).take 10)≤2932896:=fun h=>by
   have h2:=h;unfold df at h2;simp only[Bool.and_eq_true] at h2;have h3:=nv h2.2;unfold eZ;rw[if_pos h];exact⟨h3.2.2.2.2.2.2.2.2.1,h3.2.2.2.2.2.2.2.2.2⟩
  have hday:iv (l.drop p)=(decide (10≤l.length-p)&& !(decide (10<l.length-p)&&aL ((l.drop p).getD 10 0))&&df ((l.drop p).take 10)):=by unfold iv;rw[hdn]
  have h10:p+10<l.length→l[p+10]? =some ((l.drop p).getD 10 0):=fun h=>by
   rw[List.getD_eq_getElem?_getD,List.getElem?_drop,List.getElem?_eq_getElem h];rfl
  have h10b:(l.drop p).getD 10 0<256:=by
   rcases Nat.lt_or_ge 10 (l.drop p).length with h|h
   ·rw[List.getD_eq_getElem?_getD,List.getElem?_eq_getElem h];exact hdl _ (List.getElem_mem h)
   ·rw[List.getD_eq_getElem?_getD,List.getElem?_eq_none h];simp
  have hnx:gZ (l.drop p)=if fy c then(if iv (l.drop p) then some (2,(l.drop p).take 10,eZ ((l.drop p).take 10)) else(rI ((l.drop p).take (runN aL (l.drop p)))).map fun v=>(1,(l.drop p).take (runN aL (l.drop p)),v))
   else if kT c then(if runN aL (l.drop p)≤16 then some (3,(l.drop p).take (runN aL (l.drop p)),0) else none)
   else(dO (l.drop p)).map fun s=>(0,s,0):=by rw[hdrop];rfl
  have hdd:iv (l.drop p)=true→fy c=true:=fun h=>by rw[hdrop] at h;exact D4 _ _ h
  generalize (l.drop p).getD 10 0=c10 at *
  obtain⟨f',rfl⟩:∃f',f=f'+1:=⟨f-1,by omega⟩;have hstep:=gN f' l p (by omega);have hDlen:10≤l.length-p→((l.drop p).take 10).length=10:=fun h=>by rw[List.length_take];omega
  refine Cd.skip (aI (aj ?_));refine Zm ?_;refine Zv (aa.dh rfl rfl Tryz.underlying9) ?_;refine Zm ?_;refine mC ?_;refine kZ ?_;refine Zm ?_;refine aw.start ?_;refine bw (fun hcx=>aa.move rfl rfl) ?_;refine gq ?_;refine gq ?_;refine Zn (fun hcx=>aa.kA rfl rfl rfl (by omega) (by omega)) ?_;refine Zn (fun hcx=>aa.lS (i:=p) (j:=p+10) rfl rfl rfl rfl Tryz.underlying9 rfl (by omega) (by omega) (by simp at hcx;omega)) ?_;rw[hD];refine aw.bU rfl rfl rfl rfl rfl rfl rfl (fun hcx=>Ze Tryz.func153) (fun hcx=>kL ((l.drop p).take 10) _ hDl hDn) ?_;intro w1 hw1;replace ab:=ab.step hw1;replace own:=own.step hw1;refine Zn (fun hcx=>aa.geq rfl rfl rfl) ?_;refine fQ ?_;refine Zm ?_;refine aw.start ?_;refine bw (fun hcx=>aa.move rfl rfl) ?_;refine Zn (fun hcx=>aa.dh rfl rfl Tryz.underlying9) ?_;refine gq ?_;refine Zn (fun hcx=>aa.Ai rfl rfl rfl (by omega) (by omega)) ?_;refine Zn (fun hcx=>aa.fh rfl rfl rfl) ?_;refine gq ?_;refine bw (fun hcx=>aa.move rfl rfl) ?_;refine gq ?_;refine Zn (fun hcx=>aa.kA rfl rfl rfl (by omega) (by omega)) ?_;refine Zn (fun hcx=>aa.cz (l:=l) (j:=p+10) (c:=c10) rfl rfl rfl Tryz.underlying9 rfl (h10 (by simp[ct] at hcx;omega)) h10b) ?_;refine aw.bU rfl rfl rfl rfl rfl rfl rfl (fun hcx=>Ze Tryz.func77) (fun hcx=>ll c10 _) ?_;intro w2 hw2;replace ab:=ab.step hw2;replace own:=own.step hw2;refine Zn (fun hcx=>aa.not rfl rfl) ?_;refine aw.zm rfl rfl rfl rfl rfl rfl rfl rfl rfl rfl rfl ?_;refine fQ ?_;refine cB 0 4 5 6 14 27 31 72 (Zt ?_);refine Cd.cond rfl (fun h=> ?_) (fun h=> ?_)
  ·have hyes:iv (l.drop p)=true:=by
    cases hdo:df ((l.drop p).take 10)<;>cases hpo:aL c10<;>rw[hdo,hpo] at h<;>rw[hday,hdo,hpo]<;>simp at h⊢ <;>omega
   have hdo:df ((l.drop p).take 10)=true:=by rw[hday] at hyes;simp at hyes;exact hyes.2
   have h10p:10≤l.length-p:=by rw[hday] at hyes;simp at hyes;omega
   have hlT:=hDlen h10p;rw[hnx,hdd hyes,if_pos rfl,if_pos hyes] at hstep;clear h hnx hdd
   generalize hT:(l.drop p).take 10=T at *
   refine Cd.seq ?_;refine Cd.draw 14 (by kernel_rfl) [0] (.inr (fun _ _ d _ _ h=>by cases d<;>exact h)) rfl Grow Grow.refl (fun _ _ _=>Grow.trans) ?_;intro w3 hw3 zw3;replace ab:=ab.step hw3;replace own:=own.step hw3;have zbel:=ab.size;refine Dr.late rfl rfl (fun w=>aa.move rfl rfl) Grow.refl rfl ?_;refine cf ?_;refine cf ?_;refine cf ?_;refine Zd (fun w hG=>aa.kA rfl rfl rfl (by omega) (by omega)) ?_;refine Zd (fun w hG=>aa.lS (i:=p) (j:=p+10) rfl rfl rfl rfl Tryz.underlying9 rfl (by omega) (by omega) (by omega)) ?_;refine cf ?_;refine cf ?_;refine cf ?_;refine Zd (fun w hG=>aa.kA rfl rfl rfl (by omega) (by omega)) ?_;refine Zd (fun w hG=>aa.lS (i:=p) (j:=p+10) rfl rfl rfl rfl Tryz.underlying9 rfl (by omega) (by omega) (by omega)) ?_;rw[hD];refine Dr.cJ rfl (fun w=>Ze Tryz.func153) rfl (fun w hG=>kL T _ hDl hDn) ?_;refine cf ?_;rw[hdo,if_pos rfl];refine Zd (fun w hG=>aa.build rfl rfl (fP _ _ _ _ _)) ?_;refine Dr.nil ?_;refine bb.done (F':=[(0,_),(4,_),(5,_),(6,_),(14,_),(27,_),(31,_),(72,_),(73,_),(86,_)]) rfl ⟨rfl,rfl,rfl,rfl,rfl,rfl,rfl,rfl,rfl,rfl,trivial⟩ ?_;intro w4 hw4 fw4;replace ab:=ab.step hw4;replace own:=own.step hw4;refine Seq.slice (vs:=[_]) (s:=4) rfl rfl rfl Tryz.underlying178 (by kernel_rfl) (aR) (by omega) (by omega) ⟨rfl,trivial⟩ rfl rfl rfl ?_;intro g87 w5 n87;have e87:=Nat.le_trans ab.size n87.ge;replace ab:=ab.step n87.below;replace own:=own.step n87.below;have k87:=n87.an;replace own:=own.own;refine Seq.append rfl rfl rfl Tryz.underlying178 (by kernel_rfl) aR rfl (by decide) (b:=40) (by kernel_rfl) own (Reads.an (size:=4) k87 1 rfl) (by intro x hx;simp[aN,Value.cells] at hx;rcases hx with rfl|rfl|rfl|rfl<;>rfl) ab.size (by simp only[maxLen];omega) (by omega) rfl rfl rfl ?_;clear own;intro vw6 w6 own haw6;replace ab:=ab.trans haw6.below;replace own:ka w6 w.heap.size 211 4 vw6 (ws++[(⟨2,T,eZ T,p⟩:Wd)]).length (dg (ws++[⟨2,T,eZ T,p⟩])):=⟨by rw[List.length_append,gy];exact own⟩;rw[hstep] at hall;dsimp only at hall;rw[hlT] at hall;refine Za ?_;refine cB 0 4 5 6 14 27 31 72 (aB ?_);refine Zm ?_;refine cG ?_;refine Za ?_;refine cB 0 4 5 6 14 27 31 72 (Zt (Cd.exit (ae.aC (ae.ay ?_))));refine ae.round (p+10,vw6,ws++[⟨2,T,eZ T,p⟩]) ⟨rfl,rfl,rfl,trivial⟩ ⟨by dsimp only;omega,by dsimp only;rw[List.length_append];simp;omega,⟨f',by dsimp only;omega,?_⟩,ab,own⟩ (by dsimp only;omega);dsimp only;rw[hall,List.append_assoc];rfl
  have hno:iv (l.drop p)=false:=by
   rw[hday]
   cases hdo:df ((l.drop p).take 10)<;>cases hpo:aL c10<;>rw[hdo,hpo] at h<;>simp at h⊢ <;>first|(have:=(hz0 hdo).1;omega)|omega
  rw[hno] at hnx;clear h hdd hD hDl hDn hz0 hday h10 h10b hDlen hno;have hrl:=gR aL (l.drop p);rw[hdn] at hrl;have hrn:=mu aL (l.drop p);have hpos:aL c=true→0<runN aL (l.drop p):=fun h=>by rw[hdrop,eu,if_pos h];omega
  have hnm:kT c=true→cS ((l.drop p).take (runN aL (l.drop p)))=decide (runN aL (l.drop p)≤16):=fun h=>by rw[hdrop];exact y0 c _ h
  generalize hR:runN aL (l.drop p)=R at *
  refine Cd.skip (aB ?_);refine Zm ?_;refine Za ?_;refine dY 0 4 5 6 7 14 27 31 72 (aI (Cd.block ?_))
  refine Cd.loop (σ:=Nat) (fun j=>[(0, .string (strOf l)),(4,v),(5, .int .i64 (p:Int)),(6, .int .u8 (c:Int)),(7, .int .i64 ((p+j:Nat):Int))])
   (fun j wr=>j≤R∧Below w.heap.size w wr∧ka wr w.heap.size 211 4 v ws.length (dg ws)) (fun j=>l.length-j) 0 ⟨Nat.zero_le _,ab,own⟩ ⟨rfl,rfl,rfl,rfl,rfl,trivial⟩ ?_
  clear ab own;rintro j wr2 ⟨hj,ab,own⟩
  have hcd:∃d,(p+j<l.length→l[p+j]? =some d)∧d<256∧(p+j<l.length→(aL d=true↔j<R)):=by
   rcases Nat.lt_or_ge (p+j) l.length with h|h
   ·have hd:l[p+j]? =some l[p+j]:=List.getElem?_eq_getElem h
    exact⟨_,fun _=>hd,hl _ (List.getElem_mem h),fun _=>hrn j hj _ (by rw[List.getElem?_drop];exact hd)⟩
   ·exact⟨0,fun h2=>absurd h2 (by omega),by omega,fun h2=>absurd h2 (by omega)⟩
  obtain⟨d,hd1,hd2,hd3⟩:=hcd;refine Cd.seq (aj ?_);refine Zm ?_;refine Zm ?_;refine Zv (aa.dh rfl rfl Tryz.underlying9) ?_;refine eI ?_;refine Zm ?_;refine aw.start ?_;refine bw (fun hcx=>aa.move rfl rfl) ?_;refine gq ?_;refine Zn (fun hcx=>aa.cz (l:=l) (j:=p+j) (c:=d) rfl rfl rfl Tryz.underlying9 rfl (hd1 (by simp at hcx;omega)) hd2) ?_;refine aw.bU rfl rfl rfl rfl rfl rfl rfl (fun hcx=>Ze Tryz.func77) (fun hcx=>ll d _) ?_;intro w3 hw3;replace ab:=ab.step hw3;replace own:=own.step hw3;refine fQ ?_;refine aY 0 4 5 6 7 101 (Zt ?_);refine Cd.cond rfl (fun h=> ?_) (fun h=> ?_)
  ·have hlt:p+j<l.length∧j<R:=by
    simp at h;exact⟨by omega,(hd3 (by omega)).1 h.2⟩
   refine Cd.skip (Zt (Cd.block (Zr ?_)));refine Zm ?_;refine cG ?_;refine Za ?_;refine aY 0 4 5 6 7 101 (ae.ah ?_);exact ae.round (j+1) ⟨rfl,rfl,rfl,rfl,congrArg (fun x:Int=>some (Value.int .i64 x)) (show((p+j:Nat):Int)+1=((p+(j+1):Nat):Int) by omega),trivial⟩ ⟨by omega,ab,own⟩ (by omega)
  obtain rfl:j=R:=by
   simp at h;rcases Nat.lt_or_ge (p+j) l.length with h2|h2
   ·have h4:=hd3 h2
    rcases Nat.lt_or_ge j R with h3|h3
    ·have h5:=h4.2 h3
     rw[h (by omega)] at h5
     cases h5
    ·omega
   ·omega
  clear h hd1 hd2 hd3 hrn;have hT:(l.take (p+j)).drop p=(l.drop p).take j:=by rw[List.drop_take,Nat.add_sub_cancel_left]
  have hTl:=ji hdl j;have hTn:((l.drop p).take j).length=j:=by rw[List.length_take];omega
  refine Cd.exit (ae.aC (ae.aA (ae.ay (aB ?_))));refine Zm ?_;refine Zm ?_;refine Zm ?_;refine Zv (aa.lS (i:=p) (j:=p+j) rfl rfl rfl rfl Tryz.underlying9 rfl (by omega) (by omega) (by omega)) ?_;rw[hT]
  have hTc:0<j→∃r,(l.drop p).take j=c::r:=fun h=>by
   obtain⟨m,rfl⟩:∃m,j=m+1:=⟨j-1,by omega⟩;exact⟨_,by rw[hdrop];rfl⟩
  generalize (l.drop p).take j=T at *
  refine Za ?_;refine ba 0 4 5 6 7 8 101 (aI (Cd.block (aj ?_)));refine Zm ?_;refine kZ ?_;refine Zm ?_;refine aw.start ?_;refine bw (fun hcx=>aa.move rfl rfl) ?_;refine Zn (fun hcx=>aa.leq rfl rfl rfl) ?_;refine fQ ?_;refine Za ?_;refine cB 0 4 5 6 7 8 101 121 (Zt ?_);refine Cd.cond rfl (fun h=> ?_) (fun h=> ?_)
  ·have hdg:fy c=true:=by unfold fy;simp at h⊢;omega
   have hj0:=hpos (by unfold aL;rw[hdg];simp);obtain⟨r,hr⟩:=hTc hj0;rw[if_pos hdg,if_neg (by simp)] at hnx;clear h;refine aj ?_;refine Zm ?_;refine Zc (Ze Tryz.func154) (rM T 0 _ hTl ⟨by omega,by omega⟩) ?_;rintro e w7 ⟨x,ok,rfl,hamt,hb7⟩;refine⟨_,rfl,?_⟩;rw[yS hamt c r hr hdg] at hnx;replace ab:=ab.step hb7;replace own:=own.step hb7;refine Zm ?_;refine Zx ?_;refine Zx ?_;refine Za ?_;refine Za ?_;refine dq 0 4 5 6 7 8 9 10 101 121 (aI (aj ?_));refine Zm ?_;refine mD ?_;refine dv 0 4 5 6 7 8 9 10 101 121 134 (Zt ?_);refine Cd.cond rfl (fun h=> ?_) (fun h=> ?_)
   ·obtain rfl:ok=false:=by cases ok<;>simp at h⊢
    rw[oh (by omega) hnx] at hall;refine aj ?_;refine Zm ?_;refine Za ?_;refine Za ?_;refine iq 0 2 3 4 5 6 7 8 9 10 101 121 134 (Zt (Cd.ret (ae.af (ae.ag (ae.af (ae.ag (ae.aX (ae.ag (ae.af ?_)))))))));refine dH ?_;exact⟨ab, .inl ⟨p,by rw[hall],rfl⟩⟩
   ·obtain rfl:ok=true:=by cases ok<;>simp at h⊢
    rw[oI (by omega) (show gZ (l.drop p)=some (1,T,x) from hnx),hTn] at hall;refine Cd.skip (eh ?_);refine Zm ?_;refine Zm ?_;refine Zm ?_;refine Zm ?_;refine Zv (aa.build rfl rfl (fP _ _ _ _ _)) ?_;refine Seq.slice (vs:=[_]) (s:=4) rfl rfl rfl Tryz.underlying178 (by kernel_rfl) (aR) (by omega) (by omega) ⟨rfl,trivial⟩ rfl rfl rfl ?_;intro g141 w4 n141;have e141:=Nat.le_trans ab.size n141.ge;replace ab:=ab.step n141.below;replace own:=own.step n141.below;have k141:=n141.an;replace own:=own.own;refine Seq.append rfl rfl rfl Tryz.underlying178 (by kernel_rfl) aR rfl (by decide) (b:=40) (by kernel_rfl) own (Reads.an (size:=4) k141 1 rfl) (by intro x hx;simp[aN,Value.cells] at hx;rcases hx with rfl|rfl|rfl|rfl<;>rfl) ab.size (by simp only[maxLen];omega) (by omega) rfl rfl rfl ?_;clear own;intro vw5 w5 own haw5;replace ab:=ab.trans haw5.below;replace own:ka w5 w.heap.size 211 4 vw5 (ws++[(⟨1,T,x,p⟩:Wd)]).length (dg (ws++[⟨1,T,x,p⟩])):=⟨by rw[List.length_append,gy];exact own⟩;refine Za ?_;refine dv 0 4 5 6 7 8 9 10 101 121 134 (ae.ah (eh ?_));refine Zm ?_;refine Zm ?_;refine Zv (aa.dh rfl rfl Tryz.underlying9) ?_;refine cG ?_;refine Za ?_;refine dv 0 4 5 6 7 8 9 10 101 121 134 (ae.ah ?_);refine ae.round (p+j,vw5,ws++[⟨1,T,x,p⟩]) ⟨rfl,rfl,congrArg (fun x:Int=>some (Value.int .i64 x)) (by omega),trivial⟩ ⟨by dsimp only;omega,by dsimp only;rw[List.length_append];simp;omega,⟨f',by dsimp only;omega,?_⟩,ab,own⟩ (by dsimp only;omega);dsimp only;rw[hall,List.append_assoc];rfl
  have hdg:fy c=false:=by unfold fy;simp at h⊢;omega
  rw[if_neg (by rw[hdg];simp)] at hnx;clear h;refine aj ?_;refine Zm ?_;refine Zc (Ze Tryz.func76) (js c _) ?_;rintro e w7 ⟨rfl,hb7⟩;refine⟨_,rfl,?_⟩;replace ab:=ab.step hb7;replace own:=own.step hb7;refine Za ?_;refine dY 0 4 5 6 7 8 101 121 143 (Zt ?_);refine Cd.cond rfl (fun hlt=> ?_) (fun hlt=> ?_)
  ·have hj0:=hpos (by unfold aL;rw[hlt];simp)
   rw[if_pos hlt] at hnx;have hnm:=hnm hlt;refine Cd.seq (aj ?_);refine Zm ?_;refine Zc (Ze Tryz.func28) (iI T _ hTl (by omega)) ?_;rintro e w8 ⟨rfl,hb8⟩;refine⟨_,rfl,?_⟩;rw[hnm];replace ab:=ab.step hb8;replace own:=own.step hb8;refine mD ?_;refine dq 0 4 5 6 7 8 101 121 143 148 (Zt ?_);refine Cd.cond rfl (fun h=> ?_) (fun h=> ?_)
   ·rw[if_neg (by simp at h;omega)] at hnx
    rw[oh (by omega) hnx] at hall;refine aj ?_;refine Zm ?_;refine Za ?_;refine Za ?_;refine fY 0 2 3 4 5 6 7 8 101 121 143 148 (Zt (Cd.ret (ae.af (ae.ag (ae.af (ae.ag (ae.aX (ae.ag (ae.af ?_)))))))));refine dH ?_;exact⟨ab, .inl ⟨p,by rw[hall],rfl⟩⟩
   ·rw[if_pos (by simp at h;omega)] at hnx
    rw[oI (by omega) hnx,hTn] at hall;refine Cd.skip (eh ?_);refine Zm ?_;refine Zm ?_;refine Zm ?_;refine Zv (aa.build rfl rfl (fP _ _ _ _ _)) ?_;refine Seq.slice (vs:=[_]) (s:=4) rfl rfl rfl Tryz.underlying178 (by kernel_rfl) (aR) (by omega) (by omega) ⟨rfl,trivial⟩ rfl rfl rfl ?_;intro g154 w4 n154;have e154:=Nat.le_trans ab.size n154.ge;replace ab:=ab.step n154.below;replace own:=own.step n154.below;have k154:=n154.an;replace own:=own.own;refine Seq.append rfl rfl rfl Tryz.underlying178 (by kernel_rfl) aR rfl (by decide) (b:=40) (by kernel_rfl) own (Reads.an (size:=4) k154 1 rfl) (by intro x hx;simp[aN,Value.cells] at hx;rcases hx with rfl|rfl|rfl|rfl<;>rfl) ab.size (by simp only[maxLen];omega) (by omega) rfl rfl rfl ?_;clear own;intro vw5 w5 own haw5;replace ab:=ab.trans haw5.below;replace own:ka w5 w.heap.size 211 4 vw5 (ws++[(⟨3,T,0,p⟩:Wd)]).length (dg (ws++[⟨3,T,0,p⟩])):=⟨by rw[List.length_append,gy];exact own⟩;refine Za ?_;refine dq 0 4 5 6 7 8 101 121 143 148 (ae.ah (eh ?_));refine Zm ?_;refine Zm ?_;refine Zv (aa.dh rfl rfl Tryz.underlying9) ?_;refine cG ?_;refine Za ?_;refine dq 0 4 5 6 7 8 101 121 143 148 (ae.ah ?_);refine ae.round (p+j,vw5,ws++[⟨3,T,0,p⟩]) ⟨rfl,rfl,congrArg (fun x:Int=>some (Value.int .i64 x)) (by omega),trivial⟩ ⟨by dsimp only;omega,by dsimp only;rw[List.length_append];simp;omega,⟨f',by dsimp only;omega,?_⟩,ab,own⟩ (by dsimp only;omega);dsimp only;rw[hall,List.append_assoc];rfl
  rw[if_neg (by rw[hlt];simp)] at hnx
  have hslt:∀x∈(dO (l.drop p)).getD [],x<256:=by
   cases hs:dO (l.drop p) with
   |none=>simp
   |some s=>exact vx s (List.mem_of_find?_eq_some hs)
  have hsp:∀s,dO (l.drop p)=some s→0<s.length∧p+s.length≤l.length:=fun s hs=>by
   rw[hs] at hnx;have:=iT (show gZ (l.drop p)=some (0,s,0) from hnx);omega
  refine aj ?_;refine Zm ?_;refine Zm ?_;refine Zv (aa.sliceFrom (j:=p) rfl rfl rfl Tryz.underlying9 rfl hp) ?_;refine Zc (Ze Tryz.func155) (vr (l.drop p) _ hdl (by omega)) ?_;rintro e w8 ⟨rfl,hb8⟩;refine⟨_,rfl,?_⟩;replace ab:=ab.step hb8;replace own:=own.step hb8;refine Za ?_;refine dY 0 4 5 6 7 8 101 121 143 (aI (aj ?_));refine Zm ?_;refine Zv (aa.cI (a:=(dO (l.drop p)).getD []) (b:=[]) rfl rfl rfl hslt (by simp)) ?_;refine dq 0 4 5 6 7 8 101 113 121 143 (Zt ?_);refine Cd.cond rfl (fun h=> ?_) (fun h=> ?_)
  ·have hs:dO (l.drop p)=none:=by
    cases hs:dO (l.drop p) with
    |none=>rfl
    |some s=>
     rw[hs] at h;simp at h;have:=(hsp s hs).1;rw[h] at this;simp at this
   rw[hs] at hnx;rw[oh (by omega) hnx] at hall;refine aj ?_;refine Zm ?_;refine Za ?_;refine Za ?_;refine fY 0 2 3 4 5 6 7 8 101 113 121 143 (Zt (Cd.ret (ae.af (ae.ag (ae.af (ae.ag (ae.aX (ae.ag (ae.af ?_)))))))));refine dH ?_;exact⟨ab, .inl ⟨p,by rw[hall],rfl⟩⟩
  ·obtain⟨s,hs⟩:∃s,dO (l.drop p)=some s:=by
    cases hs:dO (l.drop p) with
    |none=>rw[hs] at h;simp at h
    |some s=>exact⟨s,rfl⟩
   obtain⟨hs1,hs2⟩:=hsp s hs;rw[hs] at hnx⊢;rw[oI (by omega) (show gZ (l.drop p)=some (0,s,0) from hnx)] at hall;simp only[Option.getD_some];refine Cd.skip (eh ?_);refine Zm ?_;refine Zm ?_;refine Zm ?_;refine Zv (aa.build rfl rfl (fP _ _ _ _ _)) ?_;refine Seq.slice (vs:=[_]) (s:=4) rfl rfl rfl Tryz.underlying178 (by kernel_rfl) (aR) (by omega) (by omega) ⟨rfl,trivial⟩ rfl rfl rfl ?_;intro g119 w4 n119;have e119:=Nat.le_trans ab.size n119.ge;replace ab:=ab.step n119.below;replace own:=own.step n119.below;have k119:=n119.an;replace own:=own.own;refine Seq.append rfl rfl rfl Tryz.underlying178 (by kernel_rfl) aR rfl (by decide) (b:=40) (by kernel_rfl) own (Reads.an (size:=4) k119 1 rfl) (by intro x hx;simp[aN,Value.cells] at hx;rcases hx with rfl|rfl|rfl|rfl<;>rfl) ab.size (by simp only[maxLen];omega) (by omega) rfl rfl rfl ?_;clear own;intro vw5 w5 own haw5;replace ab:=ab.trans haw5.below;replace own:ka w5 w.heap.size 211 4 vw5 (ws++[(⟨0,s,0,p⟩:Wd)]).length (dg (ws++[⟨0,s,0,p⟩])):=⟨by rw[List.length_append,gy];exact own⟩;refine Za ?_;refine dq 0 4 5 6 7 8 101 113 121 143 (ae.ah (eh ?_));refine Zm ?_;refine Zm ?_;refine Zv (aa.dh rfl rfl Tryz.underlying9) ?_;refine cG ?_;refine Za ?_;refine dq 0 4 5 6 7 8 101 113 121 143 (ae.ah ?_);refine ae.round (p+s.length,vw5,ws++[⟨0,s,0,p⟩]) ⟨rfl,rfl,congrArg (fun x:Int=>some (Value.int .i64 x)) (by omega),trivial⟩ ⟨by dsimp only;omega,by dsimp only;rw[List.length_append];simp;omega,⟨f',by dsimp only;omega,?_⟩,ab,own⟩ (by dsimp only;omega);dsimp only;rw[hall,List.append_assoc];rfl
 ·obtain rfl:p=l.length:=by omega
  have hb0:=jQ (l.drop l.length);rw[List.length_drop] at hb0;rw[lQ f l _ (by omega)] at hall;dsimp only at hall;rw[List.append_nil] at hall;refine Cd.exit (ae.aC (ae.aA (ae.ay (aB ?_))));refine Zm ?_;refine Za ?_;refine Za ?_;refine aY 0 2 3 4 5 14 (Zt (Cd.ret ?_));refine dH ?_;exact⟨ab, .inr ⟨by rw[hall],v,rfl,by rw[hall];exact own.own⟩⟩
section
variable {α β:Type} {r:Rs α} {d p:Nat} {x:α} {o:Int} {dp bd:Bool}
theorem CP (h:eC r d x p o dp bd):(d:Int)≤o∧o≤d+1:=by
 unfold eC at h
 cases r with
 |out=>exact h.elim
 |bad a b=>exact h.2.2.2
 |ok a b=>obtain⟨-,-,h,-⟩:=h;omega
theorem yM {f:α→β}(h:eC r (d+1) x p o dp bd):eC (r.bind fun a q=> .ok (f a) q) d (f x) p (o-1) dp bd:=by
 unfold eC at h
 cases r with
 |out=>exact h.elim
 |bad a b=>obtain⟨h1,h2,h3,h4,h5⟩:=h;exact⟨h1,h2,h3,by omega,by omega⟩
 |ok a b=>obtain⟨h1,h2,h3,h4,h5⟩:=h;exact⟨by rw[h1],h2,by omega,h4,h5⟩
theorem wB {ws:List Wd}{s:List Nat}{f:α→β}(h:eC r (d+1) x p o dp bd):eC (r.bind fun a q=>(bF ws s q).bind fun _ q=> .ok (f a) q) d (f x) (et ws s p bd).1 (o-1) dp (et ws s p bd).2:=by
 unfold eC at h
 cases r with
 |out=>exact h.elim
 |bad a b=>
  obtain⟨rfl,rfl,rfl,h4,h5⟩:=h;rw[mb];exact⟨rfl,rfl,rfl,by omega,by omega⟩
 |ok a b=>
  obtain⟨rfl,rfl,h3,rfl,rfl⟩:=h;rw[Rs.bB];rcases fq (ws:=ws) (s:=s) (q:=p) with ⟨h1,h2⟩|⟨h1,h2⟩
  ·rw[h1,h2];exact⟨rfl,rfl,by omega,rfl,rfl⟩
  ·rw[h1,h2];exact⟨rfl,rfl,rfl,by omega,by omega⟩
end
theorem my {w W W':World}{S:Nat→Prop}{x:Ex}{v:Value}{g:Nat}{T:TypeId}{cs:Array Value}(hr:cw W S x v)(p:lu W W' g T cs)(hb:∀b,S b→w.heap.size≤b∧b<W.heap.size∧b≠g):pb w x v W':=
 ⟨S,hr.mono (fun _ h=>h) (fun a ha=>World.cell?_of_block (p.grown.block _ (hb _ ha).2.1 (fun e=>by injection e with e;exact(hb _ ha).2.2 e))),fun b h=>⟨(hb b h).1,by have:=(hb b h).2.1;have:=p.size;omega⟩⟩
theorem cw.leaf {W:World}{S:Nat→Prop}{op n:Int}{nm:List Nat}(hop:bm op)(hn:bm n)(h1:∀c∈nm,c<256)(h2:nm.length≤9223372036854775807):cw W S (.mk op n nm []) (.agg #[.int .i64 op, .int .i64 n, .string (strOf nm), .slice none 0 0]):=
 cw.mk (args:=[]) (vs:=[]) rfl (by simp) hop hn h1 h2 (fun i e v h=>by simp at h) (fun h=>absurd rfl h)
theorem cw.one {W:World}{S:Nat→Prop}{op:Int}{x:Ex}{v:Value}{g:Nat}(hop:bm op)(hr:cw W S x v)(hb:aH W g 105 (aN [v]).toArray):cw W (fun b=>S b∨b=g) (.mk op 0 [] [x]) (.agg #[.int .i64 op, .int .i64 0, .string (strOf []), .slice (some ⟨g,0,none⟩) 1 1]):=by
 have hadd:(⟨g,0,none⟩:Addr).add=fun j=>⟨g,j,none⟩:=by funext j;unfold Addr.add;split<;>simp_all
 refine cw.mk (args:=[x]) (vs:=[v]) rfl (by simp) hop (by unfold bm;omega) (by simp) (by simp) (fun i e u h1 h2=> ?_) (fun _=>⟨⟨g,0,none⟩,rfl, .inr rfl,fun j u hu=> ?_⟩)
 ·match i,h1,h2 with
  |0,h1,h2=>
   simp at h1 h2;subst h1 h2;exact hr.mono (fun _ h=> .inl h) (fun _ _=>rfl)
  |i+1,h1,_=>simp at h1
 ·rw[hadd,hb.cell j]
  have hu2:(aN [v]).toArray[j]? =some u:=by simpa using hu
  exact hu2
theorem xi (ws:List Wd)(E0:Nat→Nat→Rs Ex)(p d:Nat):((aT ws [E0] p d).bind fun xs p=>Rs.ok (xs.getD 0 (.mk 0 0 [] [])) p)=(bF ws [40] p).bind fun _ q=>(db q d).bind fun _ q=>(E0 q (d+1)).bind fun x q=>(bF ws [41] q).bind fun _ q=> .ok x q:=by
 unfold aT;simp only[bl,if_pos,Rs.bind_assoc,Rs.bB];rfl
theorem DO {ws:List Wd}{p:Nat}{s:List Nat}:rW ws p s=true↔(dn ws p).kind=0∧(dn ws p).text=s:=by
 unfold rW;simp
structure Dc (K:Ctx)(w:World):Prop where
 rd:Reads w K.B 4 K.A K.ws.length (dg K.ws)
 le:K.B≤K.g
 lt:K.B≤w.heap.size
theorem Dc.step {K:Ctx}{w w':World}(h:Dc K w)(hb:Below w.heap.size w w'):Dc K w':=⟨h.rd.below (hb.mono h.lt),h.le,Nat.le_trans h.lt hb.size⟩
theorem Dc.put {K:Ctx}{w w':World}{g:Nat}{T:TypeId}{cur cs:Array Value}{E:Prop}(h:Dc K w)(k:aH w g T cur)(p:lu w w' g T cs)(_e:E)(hg:K.B≤g:=by omega):Dc K w':=⟨h.rd.below (p.below hg k.lt),h.le,Nat.le_trans h.lt (Nat.le_of_eq p.size.symm)⟩
theorem SW.Ft {K:Ctx}{w:World}{p:Nat}{o:Int}{dp bd:Bool}(h:SW K w p o dp bd):Dc K w:=⟨h.rd,h.le,by have:=h.an.lt;have:=h.le;omega⟩
theorem Dc.sw {K:Ctx}{w:World}(h:Dc K w){p:Nat}{o:Int}{dp bd:Bool}(hb:aH w K.g 183 #[.slice K.A K.ws.length K.c, .int .i64 (p:Int), .int .i64 o, .bool dp, .bool bd]) (hp:p≤K.ws.length) (ho:0≤o∧o≤1000):SW K w p o dp bd:=⟨hb,h.rd,hp,ho,h.le⟩
theorem xh (K:Ctx)(hK:K.Ok)(hW:wm K.ws)(p d:Nat)(S0 E0:Nat→Nat→Rs Ex)(hM:fE E0)(w:World)(sw0:SW K w p d false false)(hd:d≤64)
  (hS:∀(q d:Nat) W,p<q→d≤64→SW K W q d false false→Calls Tryz.prog 203 #[.pointer (some ⟨K.g,0,none⟩)] W (CR K W.heap.size W (eC (S0 q d) d) (pb W)))
  (hE:∀(q d:Nat) W,p<q→d≤64→SW K W q d false false→Calls Tryz.prog 160 #[.pointer (some ⟨K.g,0,none⟩), .int .i64 1] W (CR K W.heap.size W (eC (E0 q d) d) (pb W))):
  Calls Tryz.prog 203 #[.pointer (some ⟨K.g,0,none⟩)] w (CR K w.heap.size w (eC (bD K.ws S0 E0 p d) d) (pb w)):=by
 have ab:=Fz.refl w.heap.size K.g w;have k99:=sw0.an;have e99:K.g=K.g:=rfl;have hrd:=sw0.rd;have hlt:=sw0.an.lt;have hle:=hK.le;have hlen:=hK.len;have hpl:=sw0.bJ;refine Zs 170 Tryz.func203 ?_;refine aj ?_;refine Zl az ?_;intro g2 w1 n2;have e2:=Nat.le_trans ab.size n2.ge;have l2:=Nat.lt_of_lt_of_le k99.lt n2.ge;replace ab:=ab.step n2.below;replace k99:=k99.step n2.below;have k2:=n2.an;refine dF 0 2 (aI (aj ?_));refine Zm ?_;refine Zv (aa.nilCheck rfl rfl) ?_;refine Zf 4 Tryz.underlying183 ?_;refine ZL Tryz.underlying4 k99 ?_;refine bn 0 2 9 (Zt ?_);refine Cd.aM rfl rfl ?_;refine Cd.skip (aI (Cd.seq ?_));refine ff 10 ?_;intro w2 hw2 zw2;replace ab:=ab.step hw2;replace k99:=k99.step hw2;replace k2:=k2.step hw2;have zbel:=ab.size;have zlt:=k2.lt;refine cf ?_;refine Zd (fun w hG=>aa.nilCheck rfl rfl) ?_;refine eV 1 Tryz.underlying183 ?_;refine dZ Tryz.underlying3 k99 ?_;refine cf ?_;refine Zd (fun w hG=>aa.nilCheck rfl rfl) ?_;refine eV 0 Tryz.underlying183 ?_;refine dZ Tryz.underlying178 k99 ?_;refine Zd (fun w hG=>aa.len rfl rfl Tryz.underlying178) ?_;refine Zd (fun w hG=>aa.geq rfl rfl rfl) ?_;refine Dr.nil ?_;refine bb.done (F':=[(0,_),(2,_),(9,_),(20,_)]) rfl ⟨rfl,rfl,rfl,rfl,trivial⟩ ?_;intro w3 hw3 fw3;replace ab:=ab.step hw3;replace k99:=k99.step hw3;replace k2:=k2.step hw3;refine aQ 0 2 9 20 (Zt ?_);refine Cd.ak rfl (fun hc=> ?_) (fun hc=> ?_)
 ·have hR:bD K.ws S0 E0 p d= .bad p false:=qN (by omega) _ _ _
  refine aj ?_;refine Zm ?_;refine Zv (aa.nilCheck rfl rfl) ?_;refine Zf 4 Tryz.underlying183 ?_;refine Zq k99 ?_;intro w4 pw4;replace ab:=ab.put k99 pw4 e99;replace k2:=k2.put pw4 (by omega);replace k99:=pw4.an;refine aQ 0 2 9 20 (aB ?_);refine Zv (aa.build rfl rfl (iD _)) ?_;have sw1:=sw0.to hle ab k99 hpl (by omega);have k2l:=k2.lt;refine Zo 4 k2 ?_;intro w5 pw5;replace ab:=ab.put k2 pw5 e2;replace k99:=k99.put pw5 (by omega);replace k2:=pw5.an;refine aQ 0 2 9 20 (Zt (Cd.ret (ae.af ?_)));refine gp 4 k2 Tryz.underlying105 ?_;rw[hR];exact⟨ab,_,j0,_,_,_,_,rfl,⟨fun _=>False,cw.zero _ _,fun b hb=>hb.elim⟩,sw0.to hle ab k99 hpl (by omega),rfl,rfl,rfl,by omega,by omega⟩
 have hp:p<K.ws.length:=by omega
 obtain⟨ad,hA,hadb,hcell⟩:=hrd.2 (by omega);obtain⟨x,hx⟩:∃x,K.ws[p]? =some x:=⟨_,List.getElem?_eq_getElem (by omega)⟩;have hat:=uT hx;obtain⟨a1,a2,a3,a4⟩:=hK.dn p
 have hk03:0≤x.kind∧x.kind≤3:=by
  rcases hW x (List.mem_of_getElem? hx) with ⟨h1,-⟩|⟨h1,-⟩|⟨h1,-⟩|⟨h1,-⟩<;>rw[h1]<;>decide
 rw[hat] at a1 a2 a3 a4
 have hce:∀W,Below K.B w W→∀(q:Nat) (u:Value),([.int .i64 x.kind, .string (strOf x.text), .int .i64 x.n, .int .i64 (x.pos:Int)]:List Value)[q]? =some u→W.cell? ((ad.add (p*4)).add q)=some u:=fun W hb q u hu=>by
  rw[hb.cell (by rw[av,av];exact hadb),gd];exact hcell _ _ (ia K.ws p x hx q u hu)
 have hU:bD K.ws S0 E0 p d=if x.kind=0∧x.text=[33] then dz S0 19 p d else if x.kind=0∧x.text=[45] then dz S0 20 p d else fm K.ws E0 p d:=by
  unfold bD;simp only[DO,hat]
 have hAt:fm K.ws E0 p d=if x.kind=1 then .ok (.mk 1 x.n [] []) (p+1) else if x.kind=2 then .ok (.mk 2 x.n [] []) (p+1) else if x.kind=3 then
   if x.text=CB then .ok (.mk 4 0 [] []) (p+1) else if x.text=CQ then bV K.ws E0 9 2 p d else if x.text=BZ then bV K.ws E0 10 2 p d else if x.text=FQ then bV K.ws E0 21 3 p d else(eA K.ws p).bind fun nm p=> .ok (.mk 3 0 nm []) p
  else if x.kind=0 then(aT K.ws [E0] p d).bind fun xs p=> .ok (xs.getD 0 (.mk 0 0 [] [])) p else .bad p false:=by unfold fm;rw[hat]
 have hNm:eA K.ws p=if x.kind=3∧cl x.text=false then .ok x.text (p+1) else .bad p false:=by unfold eA;rw[hat]
 have hsb:=ab.size;rw[hA] at k99;refine Cd.skip (aI ?_);refine ff 11 ?_;intro w4 hw4 zw4;replace ab:=ab.step hw4;replace k99:=k99.step hw4;replace k2:=k2.step hw4;have zbel:=ab.size;have zlt:=k2.lt;refine cf ?_;refine Zd (fun w hG=>aa.nilCheck rfl rfl) ?_;refine eV 0 Tryz.underlying183 ?_;refine dZ Tryz.underlying178 k99 ?_;refine cf ?_;refine Zd (fun w hG=>aa.nilCheck rfl rfl) ?_;refine eV 1 Tryz.underlying183 ?_;refine dZ Tryz.underlying3 k99 ?_;refine Zd (fun w hG=>aa.bI rfl rfl rfl Tryz.underlying178 (s:=4) (by kernel_rfl) (j:=p) rfl (by omega)) ?_;refine Zd (fun w hG=>aa.ep (ps:=[.int .i64 x.kind, .string (strOf x.text), .int .i64 x.n, .int .i64 (x.pos:Int)]) rfl rfl Tryz.underlying211 rfl (m:=4) (by kernel_rfl) rfl (hce _ ((ab.below (by omega) hle).trans (hG.mono (by omega))))) ?_;refine Dr.alloc rfl rfl (qK aR) rfl ?_;refine Dr.nil ?_;refine bb.open (j:=10) rfl ?_;intro u10;refine bb.done (F':=[(0,_),(2,_),(3,_),(9,_),(20,_),(34,_)]) rfl ⟨rfl,rfl,rfl,rfl,rfl,rfl,trivial⟩ ?_;intro w5 hw5 fw5;replace ab:=ab.step hw5;replace k99:=k99.step hw5;replace k2:=k2.step hw5;obtain⟨-,g3,rfl,k3,e3⟩:=fw5;have l3:=Nat.lt_of_lt_of_le zlt e3;replace e3:=Nat.le_trans zbel e3;refine Zo 4 k3 ?_;intro w6 pw6;replace ab:=ab.put k3 pw6 e3;replace k99:=k99.put pw6 (by omega);replace k2:=k2.put pw6 (by omega);replace k3:=pw6.an;refine aO 0 2 3 9 20 (aI (Cd.block (aj ?_)));refine Zf 0 Tryz.underlying211 ?_;refine ZL Tryz.underlying3 k3 ?_;refine bC ?_;refine Zm ?_;refine aw.start ?_;refine bw (fun hcx=>aa.ar 0 rfl rfl Tryz.underlying211 rfl (by kernel_rfl)) ?_;refine Zn (fun hcx=>aa.au rfl rfl Tryz.underlying3 rfl k3 rfl) ?_;refine Zn (fun hcx=>aa.fh rfl rfl rfl) ?_;refine fg ?_;refine Za ?_;refine aY 0 2 3 9 20 35 (Zt ?_);refine Cd.cond rfl (fun hc=> ?_) (fun hc=> ?_)
 ·have hc:x.kind=1∨x.kind=2:=by simpa using hc
  have hR:bD K.ws S0 E0 p d= .ok (.mk x.kind x.n [] []) (p+1):=by
   rw[hU,if_neg (by omega),if_neg (by omega),hAt];rcases hc with h|h
   ·rw[if_pos h,h]
   ·rw[if_neg (by omega),if_pos h,h]
  refine aj ?_;refine Zm ?_;refine Zv (aa.nilCheck rfl rfl) ?_;refine Zf 1 Tryz.underlying183 ?_;refine ZL Tryz.underlying3 k99 ?_;refine cG ?_;refine Zv (aa.nilCheck rfl rfl) ?_;refine Zf 1 Tryz.underlying183 ?_;refine Zq k99 ?_;intro w7 pw7;replace ab:=ab.put k99 pw7 e99;replace k2:=k2.put pw7 (by omega);replace k3:=k3.put pw7 (by omega);replace k99:=pw7.an;refine aY 0 2 3 9 20 35 (aB ?_);refine Zf 0 Tryz.underlying211 ?_;refine ZL Tryz.underlying3 k3 ?_;refine Zf 2 Tryz.underlying211 ?_;refine ZL Tryz.underlying2 k3 ?_;refine Zv (aa.build rfl rfl (lC _ _ _)) ?_;refine Zo 4 k2 ?_;intro w8 pw8;replace ab:=ab.put k2 pw8 e2;replace k99:=k99.put pw8 (by omega);replace k3:=k3.put pw8 (by omega);replace k2:=pw8.an;refine aY 0 2 3 9 20 35 (Zt (Cd.ret (ae.ag (ae.af ?_))));refine gp 4 k2 Tryz.underlying105 ?_;rw[hR];exact⟨ab,_,_,_,_,_,_,rfl,⟨fun _=>False,cw.leaf a1 a2 (by simp) (by simp),fun b hb=>hb.elim⟩,sw0.to hle ab (by rw[hA,Int.natCast_add];exact k99) (by omega) (by omega),rfl,rfl,rfl,rfl,rfl⟩
 have hc12:¬x.kind=1∧¬x.kind=2:=by simpa using hc
 clear hc;refine aj ?_;refine Zf 0 Tryz.underlying211 ?_;refine ZL Tryz.underlying3 k3 ?_;refine bC ?_;refine Zm ?_;refine aw.start ?_;refine bw (fun hcx=>aa.ar 1 rfl rfl Tryz.underlying211 rfl (by kernel_rfl)) ?_;refine Zn (fun hcx=>aa.au rfl rfl Tryz.underlying9 rfl k3 rfl) ?_;refine Zn (fun hcx=>aa.cI (b:=[33]) rfl rfl rfl a3 (by decide)) ?_;refine gq ?_;refine bw (fun hcx=>aa.ar 1 rfl rfl Tryz.underlying211 rfl (by kernel_rfl)) ?_;refine Zn (fun hcx=>aa.au rfl rfl Tryz.underlying9 rfl k3 rfl) ?_;refine Zn (fun hcx=>aa.cI (b:=[45]) rfl rfl rfl a3 (by decide)) ?_;refine aw.zm rfl rfl rfl rfl rfl rfl rfl rfl rfl rfl rfl ?_;refine fQ ?_;refine Za ?_;refine ba 0 2 3 9 20 35 56 (Zt ?_);refine Cd.cond rfl (fun hc=> ?_) (fun hc=> ?_)
 ·have hc:x.kind=0∧(x.text=[33]∨x.text=[45]):=by simpa using hc
  obtain⟨op,hop⟩:∃op:Int,op=if x.text=[33] then 19 else 20:=⟨_,rfl⟩;have hop64:bm op:=by rw[hop];unfold bm;split<;>omega
  have hR:bD K.ws S0 E0 p d=dz S0 op p d:=by
   rw[hU,hop]
   by_cases h1:x.text=[33]
   ·rw[if_pos ⟨hc.1,h1⟩,if_pos h1]
   ·rw[if_neg (fun h=>h1 h.2),if_neg h1]
    rcases hc.2 with h|h
    ·exact absurd h h1
    ·rw[if_pos ⟨hc.1,h⟩]
  have hen:=ku K hK p d false false _ (sw0.to hle ab (by rw[hA];exact k99) hpl (by omega)) (by omega);have k2l:=k2.lt;have k3l:=k3.lt;refine aj ?_;refine Zm ?_;refine Zc (Ze Tryz.func158) hen ?_;rintro e we ⟨⟨ve,rfl⟩,hfe,swe⟩;refine⟨_,rfl,?_⟩;have bele:=ab.call hfe;have k2e:=k2.fz hfe (by omega);have k3e:=k3.fz hfe (by omega);have hse:=hfe.size;clear ab k2 k3 k99 hen;have ab:=bele;have k2:=k2e;have k3:=k3e
  by_cases h64:64<(d:Int)+1
  ·rw[if_pos ⟨h64,rfl⟩] at swe
   have hR2:bD K.ws S0 E0 p d= .bad p true:=by
    rw[hR];unfold dz db;rw[if_pos (by omega)];rfl
   have k99:=swe.an;refine ba 0 2 3 9 20 35 56 (aI (aj ?_));refine Zm ?_;refine Zv (aa.nilCheck rfl rfl) ?_;refine Zf 4 Tryz.underlying183 ?_;refine ZL Tryz.underlying4 k99 ?_;refine cB 0 2 3 9 20 35 56 75 (Zt ?_);refine Cd.aU rfl rfl ?_;refine aj ?_;refine Zv (aa.build rfl rfl (iD _)) ?_;refine Zo 4 k2 ?_;intro w7 pw7;replace ab:=ab.put k2 pw7 e2;replace k3:=k3.put pw7 (by omega);replace k99:=k99.put pw7 (by omega);replace k2:=pw7.an;refine cB 0 2 3 9 20 35 56 75 (Zt (Cd.ret (ae.af (ae.ag (ae.af ?_)))));refine gp 4 k2 Tryz.underlying105 ?_;rw[hR2];exact⟨ab,_,j0,_,_,_,_,rfl,⟨fun _=>False,cw.zero _ _,fun b hb=>hb.elim⟩,sw0.to hle ab k99 hpl (by omega),rfl,rfl,rfl,by omega,by omega⟩
  rw[if_neg (fun h=>h64 h.1)] at swe
  have hR2:bD K.ws S0 E0 p d=(S0 (p+1) (d+1)).bind fun x q=> .ok (.mk op 0 [] [x]) q:=by
   rw[hR];unfold dz db;rw[if_neg (by omega),Rs.bB]
  have k99:=swe.an;have loc:=swe.Ft;refine ba 0 2 3 9 20 35 56 (aI (aj ?_));refine Zm ?_;refine Zv (aa.nilCheck rfl rfl) ?_;refine Zf 4 Tryz.underlying183 ?_;refine ZL Tryz.underlying4 k99 ?_;refine cB 0 2 3 9 20 35 56 75 (Zt ?_);refine Cd.aM rfl rfl ?_;refine Cd.skip (aB ?_);refine Zm ?_;refine Zv (aa.nilCheck rfl rfl) ?_;refine Zf 1 Tryz.underlying183 ?_;refine ZL Tryz.underlying3 k99 ?_;refine cG ?_;refine Zv (aa.nilCheck rfl rfl) ?_;refine Zf 1 Tryz.underlying183 ?_;refine Zq k99 ?_;intro w7 pw7;replace ab:=ab.put k99 pw7 e99;replace k2:=k2.put pw7 (by omega);replace k3:=k3.put pw7 (by omega);replace loc:=loc.put k99 pw7 e99;replace k99:=pw7.an;refine cB 0 2 3 9 20 35 56 75 (aB ?_);refine Zm ?_;have swn:SW K _ (p+1) ((d+1:Nat):Int) false false:=loc.sw (by rw[Int.natCast_add,Int.natCast_add];exact k99) (by omega) (by omega);have hcl:=hS (p+1) (d+1) _ (by omega) (by omega) swn;clear loc k99;have hsb:=ab.size;have k2l:=k2.lt;have k3l:=k3.lt;refine Zc (Ze Tryz.func203) hcl ?_;rintro e w6 ⟨hf6,v6,y,p6,o6,dp6,bd6,rfl,⟨S6,hr6,hb6⟩,sw6,hres⟩;refine⟨_,rfl,?_⟩;have bel6:=ab.call hf6;have k26:=k2.fz hf6 (by omega);have k36:=k3.fz hf6 (by omega);have hs6:=hf6.size;clear ab k2 k3 hcl;have ab:=bel6;have k2:=k26;have k3:=k36;have k99:=sw6.an;have loc:=sw6.Ft;have rs:AU _ w6.heap.size S6 y v6 w6:=⟨hr6,hb6,Nat.le_refl _⟩;have hones:=hr6.aV;have ho6:=CP hres;obtain⟨AX,cX,hvX⟩:=hr6.form;subst hvX;refine Zl az ?_;intro g4 w8 n4;have q4:=n4.ge;have e4:=Nat.le_trans ab.size n4.ge;have l4:=Nat.lt_of_lt_of_le k99.lt n4.ge;have l4_k2:=Nat.lt_of_lt_of_le k2.lt n4.ge;have l4_k3:=Nat.lt_of_lt_of_le k3.lt n4.ge;replace ab:=ab.step n4.below;replace k2:=k2.step n4.below;replace k3:=k3.step n4.below;replace k99:=k99.step n4.below;replace loc:=loc.step n4.below;replace rs:=rs.step n4.below;have k4:=n4.an;refine Zo 4 k4 ?_;intro w9 pw9;replace ab:=ab.put k4 pw9 e4;replace k2:=k2.put pw9 (by omega);replace k3:=k3.put pw9 (by omega);replace k99:=k99.put pw9 (by omega);replace loc:=loc.put k4 pw9 e4;replace rs:=rs.put k4 pw9 e4;replace k4:=pw9.an;refine dY 0 2 3 4 9 20 35 56 75 (aB ?_);refine Zm ?_;refine Zv (aa.nilCheck rfl rfl) ?_;refine Zf 2 Tryz.underlying183 ?_;refine ZL Tryz.underlying3 k99 ?_;refine mC ?_;refine Zv (aa.nilCheck rfl rfl) ?_;refine Zf 2 Tryz.underlying183 ?_;refine Zq k99 ?_;intro w10 pw10;replace ab:=ab.put k99 pw10 e99;replace k2:=k2.put pw10 (by omega);replace k3:=k3.put pw10 (by omega);replace loc:=loc.put k99 pw10 e99;replace rs:=rs.put k99 pw10 e99;replace k4:=k4.put pw10 (by omega);replace k99:=pw10.an;refine dY 0 2 3 4 9 20 35 56 75 (aI (aj ?_));refine Zf 1 Tryz.underlying211 ?_;refine ZL Tryz.underlying9 k3 ?_;refine Zv (aa.cI (b:=[33]) rfl rfl rfl a3 (by decide)) ?_;refine dq 0 2 3 4 9 20 35 56 75 95 (Zt ?_);refine Cd.ak rfl (fun hc2=> ?_) (fun hc2=> ?_)
  ·rw[if_pos hc2] at hop
   subst hop;refine aj ?_;refine ZW 4 Tryz.underlying105 k4 ?_;refine Seq.slice (vs:=[_]) (s:=4) rfl rfl rfl Tryz.underlying68 (by kernel_rfl) (az) (by omega) (by omega) ⟨rfl,trivial⟩ rfl rfl rfl ?_;intro g97 w11 n97;have q97:=n97.ge;have e97:=Nat.le_trans ab.size n97.ge;have l97:=Nat.lt_of_lt_of_le k4.lt n97.ge;have l97_k2:=Nat.lt_of_lt_of_le k2.lt n97.ge;have l97_k3:=Nat.lt_of_lt_of_le k3.lt n97.ge;have l97_k99:=Nat.lt_of_lt_of_le k99.lt n97.ge;replace ab:=ab.step n97.below;replace k2:=k2.step n97.below;replace k3:=k3.step n97.below;replace k99:=k99.step n97.below;replace loc:=loc.step n97.below;replace rs:=rs.step n97.below;replace k4:=k4.step n97.below;have k97:=n97.an;refine Zv (aa.build rfl rfl (iy 19 _ _)) ?_;have k2b:=k2;have rsb:=rs;have k97b:=k97;refine Zo 4 k2 ?_;intro w12 pw12;replace ab:=ab.put k2 pw12 e2;replace k3:=k3.put pw12 (by omega);replace k99:=k99.put pw12 (by omega);replace loc:=loc.put k2 pw12 e2;replace rs:=rs.put k2 pw12 e2;replace k4:=k4.put pw12 (by omega);replace k97:=k97.put pw12 (by omega);replace k2:=pw12.an;refine dq 0 2 3 4 9 20 35 56 75 95 (Zt (Cd.ret (ae.af (ae.ag (ae.af ?_)))));refine gp 4 k2 Tryz.underlying105 ?_;rw[hR2]
   exact⟨ab,_,_,_,_,_,_,rfl,my (cw.one hop64 rsb.rep k97b) pw12 (fun b hb=>by
    rcases hb with hb|rfl
    ·have:=rsb.bd b hb;have:=rsb.eX;omega
    ·have:=k97b.lt;omega),loc.sw k99 sw6.bJ (by omega),yM (f:=fun y=>Ex.mk 19 0 [] [y]) hres⟩
  ·rw[if_neg hc2] at hop
   subst hop;refine Cd.skip (aB ?_);refine ZW 4 Tryz.underlying105 k4 ?_;refine Seq.slice (vs:=[_]) (s:=4) rfl rfl rfl Tryz.underlying68 (by kernel_rfl) (az) (by omega) (by omega) ⟨rfl,trivial⟩ rfl rfl rfl ?_;intro g100 w11 n100;have q100:=n100.ge;have e100:=Nat.le_trans ab.size n100.ge;have l100:=Nat.lt_of_lt_of_le k4.lt n100.ge;have l100_k2:=Nat.lt_of_lt_of_le k2.lt n100.ge;have l100_k3:=Nat.lt_of_lt_of_le k3.lt n100.ge;have l100_k99:=Nat.lt_of_lt_of_le k99.lt n100.ge;replace ab:=ab.step n100.below;replace k2:=k2.step n100.below;replace k3:=k3.step n100.below;replace k99:=k99.step n100.below;replace loc:=loc.step n100.below;replace rs:=rs.step n100.below;replace k4:=k4.step n100.below;have k100:=n100.an;refine Zv (aa.build rfl rfl (iy 20 _ _)) ?_;have k2b:=k2;have rsb:=rs;have k100b:=k100;refine Zo 4 k2 ?_;intro w12 pw12;replace ab:=ab.put k2 pw12 e2;replace k3:=k3.put pw12 (by omega);replace k99:=k99.put pw12 (by omega);replace loc:=loc.put k2 pw12 e2;replace rs:=rs.put k2 pw12 e2;replace k4:=k4.put pw12 (by omega);replace k100:=k100.put pw12 (by omega);replace k2:=pw12.an;refine dq 0 2 3 4 9 20 35 56 75 95 (Zt (Cd.ret (ae.ag (ae.af ?_))));refine gp 4 k2 Tryz.underlying105 ?_;rw[hR2]
   exact⟨ab,_,_,_,_,_,_,rfl,my (cw.one hop64 rsb.rep k100b) pw12 (fun b hb=>by
    rcases hb with hb|rfl
    ·have:=rsb.bd b hb;have:=rsb.eX;omega
    ·have:=k100b.lt;omega),loc.sw k99 sw6.bJ (by omega),yM (f:=fun y=>Ex.mk 20 0 [] [y]) hres⟩
 have hcs:¬(x.kind=0∧(x.text=[33]∨x.text=[45])):=by simpa using hc
 have hR:bD K.ws S0 E0 p d=fm K.ws E0 p d:=by
  rw[hU,if_neg (fun h=>hcs ⟨h.1, .inl h.2⟩),if_neg (fun h=>hcs ⟨h.1, .inr h.2⟩)]
 rw[hAt,if_neg hc12.1,if_neg hc12.2] at hR;clear hc hU hAt hcs;refine aj ?_;refine Zf 0 Tryz.underlying211 ?_;refine ZL Tryz.underlying3 k3 ?_;refine bC ?_;refine Za ?_;refine cB 0 2 3 9 20 35 56 102 (Zt ?_);refine Cd.ak rfl (fun h0=> ?_) (fun h0=> ?_)
 ·rw[if_neg (by omega),if_pos h0,xi] at hR
  have hta:=gE K hK p d false false [40] _ (sw0.to hle ab (by rw[hA];exact k99) hpl (by omega)) (by decide) (by decide);have k2l:=k2.lt;refine aj ?_;refine Zm ?_;refine Zc (Ze Tryz.func157) hta ?_;rintro e w5 ⟨⟨v5,rfl⟩,hf5,sw5⟩;refine⟨_,rfl,?_⟩;have bel5:=ab.call hf5;have k25:=k2.fz hf5 (by omega);have hs5:=hf5.size;clear ab k2 k3 k99 hta;have ab:=bel5;have k2:=k25;have hen:=ku K hK _ _ _ _ _ sw5 (by omega);refine cB 0 2 3 9 20 35 56 102 (aB ?_);refine Zm ?_;refine Zc (Ze Tryz.func158) hen ?_;rintro e we ⟨⟨ve,rfl⟩,hfe,swe⟩;refine⟨_,rfl,?_⟩;have bele:=ab.call hfe;have k2e:=k2.fz hfe (by omega);have hse:=hfe.size;clear ab k2;have ab:=bele;have k2:=k2e
  have hst:∃(q:Nat) (dp bd:Bool),SW K we q (d+1) dp bd∧(bd=false→dp=false∧p<q∧d+1≤64∧bD K.ws S0 E0 p d=(E0 q (d+1)).bind fun x q=>(bF K.ws [41] q).bind fun _ q=> .ok x q)∧(bd=true→bD K.ws S0 E0 p d= .bad q dp):=by
   rcases fq (ws:=K.ws) (s:=[40]) (q:=p) with ⟨h1,h2⟩|⟨h1,h2⟩
   ·rw[h1] at swe
    dsimp only at swe;rw[h2,Rs.bB] at hR
    by_cases h64:64<(d:Int)+1
    ·rw[if_pos ⟨h64,rfl⟩] at swe
     refine⟨_,_,_,swe,fun h=>(by cases h),fun _=> ?_⟩;rw[hR];unfold db;rw[if_pos (by omega)];rfl
    ·rw[if_neg (fun h=>h64 h.1)] at swe
     refine⟨_,_,_,swe,fun _=>⟨rfl,by omega,by omega,?_⟩,fun h=>by cases h⟩;rw[hR];unfold db;rw[if_neg (by omega),Rs.bB]
   ·rw[h1] at swe
    dsimp only at swe;rw[h2,Rs.lM] at hR;rw[if_neg (fun h=>by cases h.2),if_neg (fun h=>by cases h.2)] at swe;exact⟨_,_,_,swe,fun h=>(by cases h),fun _=>hR⟩
  clear swe sw5 hen;obtain⟨q,dp,bd,sw,hgood,hbad⟩:=hst
  have hcl:Calls Tryz.prog 160 #[.pointer (some ⟨K.g,0,none⟩), .int .i64 1] we (CR K we.heap.size we (fun x p o dp' bd'=>(bd=false→eC (E0 q (d+1)) (d+1) x p o dp' bd')∧(bd=true→uP q ((d:Int)+1) dp x p o dp' bd')) (pb we)):=by
   cases bd with
   |false=>
    obtain⟨hg1,hg2,hg3,-⟩:=hgood rfl;subst hg1;refine(hE q (d+1) we hg2 hg3 (by rw[Int.natCast_add];exact sw)).mono fun e W' h=> ?_;obtain⟨hf,v,x,p',o',dp',bd',rfl,h2,h3,h4⟩:=h;exact⟨hf,v,x,p',o',dp',bd',rfl,h2,h3,fun _=>h4,fun h=>by cases h⟩
   |true=>
    refine(oo K hK q _ dp 1 we sw).mono fun e W' h=> ?_;obtain⟨hb,rfl⟩:=h;exact⟨Fz.of hb,_,j0,q,_,dp,true,rfl,⟨fun _=>False,cw.zero _ _,fun b hb=>hb.elim⟩,sw.step hb,fun h=>(by cases h),fun _=>⟨rfl,rfl,rfl,rfl⟩⟩
  have k2l:=k2.lt;have hsb:=ab.size;refine cB 0 2 3 9 20 35 56 102 (aB ?_);refine Zm ?_;refine Zc (Ze Tryz.func160) hcl ?_;rintro e w6 ⟨hf6,v6,y,p6,o6,dp6,bd6,rfl,⟨S6,hr6,hb6⟩,sw6,hpf1,hpf2⟩;refine⟨_,rfl,?_⟩;have bel6:=ab.call hf6;have k26:=k2.fz hf6 (by omega);have hs6:=hf6.size
  have hres:1≤o6∧o6≤66∧eC (bD K.ws S0 E0 p d) d y (et K.ws [41] p6 bd6).1 (o6-1) dp6 (et K.ws [41] p6 bd6).2:=by
   cases bd with
   |false=>
    obtain⟨-,-,-,hR2⟩:=hgood rfl;have hres:=hpf1 rfl;have:=CP hres;rw[hR2];exact⟨by omega,by omega,wB (f:=fun y=>y) hres⟩
   |true=>
    obtain⟨rfl,rfl,rfl,rfl⟩:=hpf2 rfl;rw[hbad rfl,mb];exact⟨by omega,by omega,rfl,rfl,rfl,by omega,by omega⟩
  clear ab k2 hcl hgood hbad hpf1 hpf2 hR sw;obtain⟨ho1,ho2,hres⟩:=hres;have ab:=bel6;have k2:=k26;have rs:AU _ w6.heap.size S6 y v6 w6:=⟨hr6,hb6,Nat.le_refl _⟩;have hones:=hr6.aV;obtain⟨AX,cX,hvX⟩:=hr6.form;subst hvX;have sw7:=sw6;clear sw6;refine Zl az ?_;intro g5 w7 n5;have q5:=n5.ge;have e5:=Nat.le_trans ab.size n5.ge;have l5:=Nat.lt_of_lt_of_le k2.lt n5.ge;replace ab:=ab.step n5.below;replace k2:=k2.step n5.below;replace rs:=rs.step n5.below;replace sw7:=sw7.step n5.below;have k5:=n5.an;refine Zo 4 k5 ?_;intro w8 pw8;replace ab:=ab.put k5 pw8 e5;replace k2:=k2.put pw8 (by omega);replace rs:=rs.put k5 pw8 e5;replace sw7:=sw7.put k5 pw8 e5;replace k5:=pw8.an;refine dY 0 2 3 5 9 20 35 56 102 (aB ?_);refine Zm ?_;have hta:=gE K hK p6 o6 dp6 bd6 [41] _ sw7 (by decide) (by decide);have k5l:=k5.lt;refine Zc (Ze Tryz.func157) hta ?_;rintro e w8 ⟨⟨v8,rfl⟩,hf8,sw8⟩;refine⟨_,rfl,?_⟩;have bel8:=ab.call hf8;have k28:=k2.fz hf8 (by omega);have k58:=k5.fz hf8 (by omega);have hs8:=hf8.size;have rs8:AU we.heap.size w6.heap.size S6 y _ w8:=⟨rs.rep.mono (fun _ h=>h) (fun a ha=>World.cell?_of_block (hf8.block _ (Nat.lt_of_lt_of_le (rs.bd _ ha).2 rs.eX) (by have:=(rs.bd _ ha).1;omega))),rs.bd,Nat.le_trans rs.eX hs8⟩;clear ab k2 k5 rs sw7 hta;have ab:=bel8;have k2:=k28;have k5:=k58;have rs:=rs8;have k99:=sw8.an;have loc:=sw8.Ft;refine dY 0 2 3 5 9 20 35 56 102 (aB ?_);refine Zm ?_;refine Zv (aa.nilCheck rfl rfl) ?_;refine Zf 2 Tryz.underlying183 ?_;refine ZL Tryz.underlying3 k99 ?_;refine mC ?_;refine Zv (aa.nilCheck rfl rfl) ?_;refine Zf 2 Tryz.underlying183 ?_;refine Zq k99 ?_;intro w9 pw9;replace ab:=ab.put k99 pw9 e99;replace k2:=k2.put pw9 (by omega);replace rs:=rs.put k99 pw9 e99;replace k5:=k5.put pw9 (by omega);replace loc:=loc.put k99 pw9 e99;replace k99:=pw9.an;refine dY 0 2 3 5 9 20 35 56 102 (aB ?_);refine ZW 4 Tryz.underlying105 k5 ?_;have rsb:=rs;refine Zo 4 k2 ?_;intro w10 pw10;replace ab:=ab.put k2 pw10 e2;replace rs:=rs.put k2 pw10 e2;replace k5:=k5.put pw10 (by omega);replace k99:=k99.put pw10 (by omega);replace loc:=loc.put k2 pw10 e2;replace k2:=pw10.an;refine dY 0 2 3 5 9 20 35 56 102 (Zt (Cd.ret (ae.ag (ae.af ?_))));refine gp 4 k2 Tryz.underlying105 ?_;exact⟨ab,_,_,_,_,_,_,rfl,my rsb.rep pw10 (fun b hb=>by have:=rsb.bd b hb;have:=rsb.eX;omega),loc.sw k99 sw8.bJ (by omega),hres⟩
 have h3:x.kind=3:=by omega
 rw[if_pos h3] at hR;refine aj ?_;refine Zf 1 Tryz.underlying211 ?_;refine ZL Tryz.underlying9 k3 ?_;refine Zv (aa.cI (b:=CB) rfl rfl rfl a3 (by decide)) ?_;refine Za ?_;refine dY 0 2 3 9 20 35 56 102 122 (Zt ?_);refine Cd.ak rfl (fun hc=> ?_) (fun hc=> ?_)
 ·rw[if_pos hc] at hR
  refine aj ?_;refine Zm ?_;refine Zv (aa.nilCheck rfl rfl) ?_;refine Zf 1 Tryz.underlying183 ?_;refine ZL Tryz.underlying3 k99 ?_;refine cG ?_;refine Zv (aa.nilCheck rfl rfl) ?_;refine Zf 1 Tryz.underlying183 ?_;refine Zq k99 ?_;intro w7 pw7;replace ab:=ab.put k99 pw7 e99;replace k2:=k2.put pw7 (by omega);replace k3:=k3.put pw7 (by omega);replace k99:=pw7.an;refine dY 0 2 3 9 20 35 56 102 122 (aB ?_);refine Zv (aa.build rfl rfl (gV 4 _)) ?_;refine Zo 4 k2 ?_;intro w8 pw8;replace ab:=ab.put k2 pw8 e2;replace k99:=k99.put pw8 (by omega);replace k3:=k3.put pw8 (by omega);replace k2:=pw8.an;refine dY 0 2 3 9 20 35 56 102 122 (Zt (Cd.ret (ae.ag (ae.af ?_))));refine gp 4 k2 Tryz.underlying105 ?_;rw[hR];exact⟨ab,_,_,_,_,_,_,rfl,⟨fun _=>False,cw.leaf (by unfold bm;omega) (by unfold bm;omega) (by simp) (by simp),fun b hb=>hb.elim⟩,sw0.to hle ab (by rw[hA,Int.natCast_add];exact k99) (by omega) (by omega),rfl,rfl,rfl,rfl,rfl⟩
 rw[if_neg hc] at hR;refine aj ?_;refine Zf 1 Tryz.underlying211 ?_;refine ZL Tryz.underlying9 k3 ?_;refine Zv (aa.cI (b:=CQ) rfl rfl rfl a3 (by decide)) ?_;refine Za ?_;refine dq 0 2 3 9 20 35 56 102 122 134 (Zt ?_);refine Cd.ak rfl (fun hc=> ?_) (fun hc=> ?_)
 ·rw[if_pos hc] at hR
  refine aj ?_;refine Zm ?_;have har:=qo K hK 9 2 p d E0 hM _ (sw0.to hle ab (by rw[hA];exact k99) hpl (by omega)) (by omega) hd (by omega) (by unfold bm;omega) hE;have k2l:=k2.lt;have hsb:=ab.size;refine Zc (Ze Tryz.func229) har ?_;rintro e w6 ⟨hf6,v6,y,p6,o6,dp6,bd6,rfl,⟨S6,hr6,hb6⟩,sw6,hres⟩;refine⟨_,rfl,?_⟩;have bel6:=ab.call hf6;have k26:=k2.fz hf6 (by omega);clear ab k2 k3 k99 har;have ab:=bel6;have k2:=k26;have hones:=hr6.aV;obtain⟨AX,cX,hvX⟩:=hr6.form;subst hvX;refine Zo 4 k2 ?_;intro w7 pw7;replace ab:=ab.put k2 pw7 e2;replace k2:=pw7.an;refine dq 0 2 3 9 20 35 56 102 122 134 (Zt (Cd.ret (ae.ag (ae.af ?_))));refine gp 4 k2 Tryz.underlying105 ?_;rw[hR];exact⟨ab,_,_,_,_,_,_,rfl,my hr6 pw7 (fun b hb=>by have:=hb6 b hb;omega),sw6.put k26 pw7 trivial,hres⟩
 rw[if_neg hc] at hR;refine aj ?_;refine Zf 1 Tryz.underlying211 ?_;refine ZL Tryz.underlying9 k3 ?_;refine Zv (aa.cI (b:=BZ) rfl rfl rfl a3 (by decide)) ?_;refine Za ?_;refine dv 0 2 3 9 20 35 56 102 122 134 140 (Zt ?_);refine Cd.ak rfl (fun hc=> ?_) (fun hc=> ?_)
 ·rw[if_pos hc] at hR
  refine aj ?_;refine Zm ?_;have har:=qo K hK 10 2 p d E0 hM _ (sw0.to hle ab (by rw[hA];exact k99) hpl (by omega)) (by omega) hd (by omega) (by unfold bm;omega) hE;have k2l:=k2.lt;have hsb:=ab.size;refine Zc (Ze Tryz.func229) har ?_;rintro e w6 ⟨hf6,v6,y,p6,o6,dp6,bd6,rfl,⟨S6,hr6,hb6⟩,sw6,hres⟩;refine⟨_,rfl,?_⟩;have bel6:=ab.call hf6;have k26:=k2.fz hf6 (by omega);clear ab k2 k3 k99 har;have ab:=bel6;have k2:=k26;have hones:=hr6.aV;obtain⟨AX,cX,hvX⟩:=hr6.form;subst hvX;refine Zo 4 k2 ?_;intro w7 pw7;replace ab:=ab.put k2 pw7 e2;replace k2:=pw7.an;refine dv 0 2 3 9 20 35 56 102 122 134 140 (Zt (Cd.ret (ae.ag (ae.af ?_))));refine gp 4 k2 Tryz.underlying105 ?_;rw[hR];exact⟨ab,_,_,_,_,_,_,rfl,my hr6 pw7 (fun b hb=>by have:=hb6 b hb;omega),sw6.put k26 pw7 trivial,hres⟩
 rw[if_neg hc] at hR;refine aj ?_;refine Zf 1 Tryz.underlying211 ?_;refine ZL Tryz.underlying9 k3 ?_;refine Zv (aa.cI (b:=FQ) rfl rfl rfl a3 (by decide)) ?_;refine Za ?_;refine fY 0 2 3 9 20 35 56 102 122 134 140 146 (Zt ?_);refine Cd.ak rfl (fun hc=> ?_) (fun hc=> ?_)
 ·rw[if_pos hc] at hR
  refine aj ?_;refine Zm ?_;have har:=qo K hK 21 3 p d E0 hM _ (sw0.to hle ab (by rw[hA];exact k99) hpl (by omega)) (by omega) hd (by omega) (by unfold bm;omega) hE;have k2l:=k2.lt;have hsb:=ab.size;refine Zc (Ze Tryz.func229) har ?_;rintro e w6 ⟨hf6,v6,y,p6,o6,dp6,bd6,rfl,⟨S6,hr6,hb6⟩,sw6,hres⟩;refine⟨_,rfl,?_⟩;have bel6:=ab.call hf6;have k26:=k2.fz hf6 (by omega);clear ab k2 k3 k99 har;have ab:=bel6;have k2:=k26;have hones:=hr6.aV;obtain⟨AX,cX,hvX⟩:=hr6.form;subst hvX;refine Zo 4 k2 ?_;intro w7 pw7;replace ab:=ab.put k2 pw7 e2;replace k2:=pw7.an;refine fY 0 2 3 9 20 35 56 102 122 134 140 146 (Zt (Cd.ret (ae.ag (ae.af ?_))));refine gp 4 k2 Tryz.underlying105 ?_;rw[hR];exact⟨ab,_,_,_,_,_,_,rfl,my hr6 pw7 (fun b hb=>by have:=hb6 b hb;omega),sw6.put k26 pw7 trivial,hres⟩
 rw[if_neg hc] at hR;refine aj ?_;refine Zf 1 Tryz.underlying211 ?_;refine ZL Tryz.underlying9 k3 ?_;refine Zc (Ze Tryz.func159) (kR x.text _ a3) ?_;rintro e w6 ⟨rfl,hb6⟩;refine⟨_,rfl,?_⟩;replace ab:=ab.step hb6;replace k99:=k99.step hb6;replace k2:=k2.step hb6;replace k3:=k3.step hb6;refine Za ?_;refine iq 0 2 3 9 20 35 56 102 122 134 140 146 152 (Zt ?_);rw[hNm] at hR;refine Cd.cond rfl (fun hc=> ?_) (fun hc=> ?_)
 ·rw[if_neg (by rw[hc];simp)] at hR
  refine aj ?_;refine Zm ?_;refine Zv (aa.nilCheck rfl rfl) ?_;refine Zf 4 Tryz.underlying183 ?_;refine Zq k99 ?_;intro w7 pw7;replace ab:=ab.put k99 pw7 e99;replace k2:=k2.put pw7 (by omega);replace k3:=k3.put pw7 (by omega);replace k99:=pw7.an;refine iq 0 2 3 9 20 35 56 102 122 134 140 146 152 (aB ?_);refine Zv (aa.build rfl rfl (iD _)) ?_;refine Zo 4 k2 ?_;intro w8 pw8;replace ab:=ab.put k2 pw8 e2;replace k99:=k99.put pw8 (by omega);replace k3:=k3.put pw8 (by omega);replace k2:=pw8.an;refine iq 0 2 3 9 20 35 56 102 122 134 140 146 152 (Zt (Cd.ret (ae.ag (ae.af ?_))));refine gp 4 k2 Tryz.underlying105 ?_;rw[hR];exact⟨ab,_,j0,_,_,_,_,rfl,⟨fun _=>False,cw.zero _ _,fun b hb=>hb.elim⟩,sw0.to hle ab (by rw[hA];exact k99) hpl (by omega),rfl,rfl,rfl,by omega,by omega⟩
 ·rw[if_pos ⟨h3,hc⟩,Rs.bB] at hR
  refine Cd.skip (ae.ah (aB ?_));refine Zm ?_;refine Zv (aa.nilCheck rfl rfl) ?_;refine Zf 1 Tryz.underlying183 ?_;refine ZL Tryz.underlying3 k99 ?_;refine cG ?_;refine Zv (aa.nilCheck rfl rfl) ?_;refine Zf 1 Tryz.underlying183 ?_;refine Zq k99 ?_;intro w7 pw7;replace ab:=ab.put k99 pw7 e99;replace k2:=k2.put pw7 (by omega);replace k3:=k3.put pw7 (by omega);replace k99:=pw7.an;refine iq 0 2 3 9 20 35 56 102 122 134 140 146 152 (aB ?_);refine Zf 1 Tryz.underlying211 ?_;refine ZL Tryz.underlying9 k3 ?_;refine Zv (aa.build rfl rfl (ny 3 _ _)) ?_;refine Zo 4 k2 ?_;intro w8 pw8;replace ab:=ab.put k2 pw8 e2;replace k99:=k99.put pw8 (by omega);replace k3:=k3.put pw8 (by omega);replace k2:=pw8.an;refine iq 0 2 3 9 20 35 56 102 122 134 140 146 152 (Zt (Cd.ret ?_));refine gp 4 k2 Tryz.underlying105 ?_;rw[hR];exact⟨ab,_,_,_,_,_,_,rfl,⟨fun _=>False,cw.leaf (by unfold bm;omega) (by unfold bm;omega) a3 (by omega),fun b hb=>hb.elim⟩,sw0.to hle ab (by rw[hA,Int.natCast_add];exact k99) (by omega) (by omega),rfl,rfl,rfl,rfl,rfl⟩
theorem D5 {t:List Nat}{i:Nat}{op:Int}(h:tU t=some (i,op)):i<5∧bm op:=by
 unfold tU at h
 have st:∀(c:Prop) [Decidable c] (z:Nat × Int) (e:Option (Nat × Int)),(if c then some z else e)=some (i,op)→z=(i,op)∨e=some (i,op):=fun c _ z e h=>by
  split at h
  ·injection h with h;exact .inl h
  ·exact .inr h
 rcases st _ _ _ h with h|h
 ·injection h with h1 h2
  subst h1 h2;exact⟨by omega,by unfold bm;omega⟩
 rcases st _ _ _ h with h|h
 ·injection h with h1 h2
  subst h1 h2;exact⟨by omega,by unfold bm;omega⟩
 rcases st _ _ _ h with h|h
 ·injection h with h1 h2
  subst h1 h2;exact⟨by omega,by unfold bm;omega⟩
 rcases st _ _ _ h with h|h
 ·injection h with h1 h2
  subst h1 h2;exact⟨by omega,by unfold bm;omega⟩
 rcases st _ _ _ h with h|h
 ·injection h with h1 h2
  subst h1 h2;exact⟨by omega,by unfold bm;omega⟩
 rcases st _ _ _ h with h|h
 ·injection h with h1 h2
  subst h1 h2;exact⟨by omega,by unfold bm;omega⟩
 rcases st _ _ _ h with h|h
 ·injection h with h1 h2
  subst h1 h2;exact⟨by omega,by unfold bm;omega⟩
 rcases st _ _ _ h with h|h
 ·injection h with h1 h2
  subst h1 h2;exact⟨by omega,by unfold bm;omega⟩
 rcases st _ _ _ h with h|h
 ·injection h with h1 h2
  subst h1 h2;exact⟨by omega,by unfold bm;omega⟩
 rcases st _ _ _ h with h|h
 ·injection h with h1 h2
  subst h1 h2;exact⟨by omega,by unfold bm;omega⟩
 rcases st _ _ _ h with h|h
 ·injection h with h1 h2
  subst h1 h2;exact⟨by omega,by unfold bm;omega⟩
 rcases st _ _ _ h with h|h
 ·injection h with h1 h2
  subst h1 h2;exact⟨by omega,by unfold bm;omega⟩
 ·cases h
theorem Ea (ws:List Wd)(q:Nat):∃pz oz:Int,zk (gX ws q false 0)=(pz,oz)∧((pz=0∧oz=0∧lX ws q=none)∨∃i:Nat,pz=(i:Int)+1∧i<5∧lX ws q=some (i,oz)∧bm oz):=by
 have h1:gX ws q false 0=if(dn ws q).kind=0 then(dn ws q).text else []:=rfl;rw[h1];unfold lX
 by_cases hk:(dn ws q).kind=0
 ·rw[if_pos hk,if_pos hk]
  unfold zk
  cases hp:tU (dn ws q).text with
  |none=>exact⟨0,0,rfl, .inl ⟨rfl,rfl,rfl⟩⟩
  |some z=>
   obtain⟨i,op⟩:=z;obtain⟨h2,h3⟩:=D5 hp;exact⟨_,_,rfl, .inr ⟨i,rfl,h2,rfl,h3⟩⟩
 ·rw[if_neg hk,if_neg hk]
  exact⟨0,0,by decide, .inl ⟨rfl,rfl,rfl⟩⟩
theorem CN {ws:List Wd}{q:Nat}{z:Nat × Int}(h:lX ws q=some z):q<ws.length:=by
 rcases Nat.lt_or_ge q ws.length with hp|hp
 ·exact hp
 ·unfold lX at h
  rw[lI hp] at h
  cases h
structure GK (K:Ctx)(R:Rs Ex)(d lvl p0:Nat)(w:World)(g4 g5:Nat)(q:Nat)(o:Int)(dp bd:Bool)(x:Ex)(A:Option Addr)(c:Nat)(m:Int)(wr:World):Prop where
 sw:SW K wr q o dp bd
 ab:Fz w.heap.size K.g w wr
 k4:aH wr g4 105 #[.int .i64 0, .int .i64 0, .string {data:= #[]}, .slice none 0 0]
 k5:aH wr g5 105 (sc x A c)
 rs:fa g4 wr.heap.size g5 x (.agg (sc x A c)) wr
 xN:bd=false→o=d∧dp=false∧p0<q∧∃k:Nat,lvl+k≤5∧(m=(lvl+k:Nat)∨(m=9∧lvl+k=5))∧R=yN (cg K.ws) lvl k x q d
 bad:bd=true→R= .bad q dp∧(d:Int)≤o∧o≤d+1
theorem Ab (K:Ctx)(hK:K.Ok)(lvl p d:Nat)(hlvl:lvl≤5)(w:World)(sw0:SW K w p d false false)(hd:d≤64)
  (hS:∀W,SW K W p d false false→Calls Tryz.prog 203 #[.pointer (some ⟨K.g,0,none⟩)] W (CR K W.heap.size W (eC ((cg K.ws).S p d) d) (pb W)))
  (hE:∀(l q d:Nat) W,p<q→l≤5→d≤64→SW K W q d false false→Calls Tryz.prog 160 #[.pointer (some ⟨K.g,0,none⟩), .int .i64 ((l:Int)+1)] W (CR K W.heap.size W (eC ((cg K.ws).E l q d) d) (pb W))):
  Calls Tryz.prog 160 #[.pointer (some ⟨K.g,0,none⟩), .int .i64 ((lvl:Int)+1)] w (CR K w.heap.size w (eC ((cg K.ws).E lvl p d) d) (pb w)):=by
 have ab:=Fz.refl w.heap.size K.g w;have k99:=sw0.an;have e99:K.g=K.g:=rfl;have hlt:=sw0.an.lt;have hle:=hK.le;have hlen:=hK.len;obtain⟨k0,hk0⟩:∃k0,lvl+k0=5:=⟨5-lvl,by omega⟩;have hR0:=yP K.ws p d k0 lvl hk0;obtain⟨R,hR⟩:∃R,R=(cg K.ws).E lvl p d:=⟨_,rfl⟩;rw[←hR] at hR0⊢;clear hR;refine Zs 56 Tryz.func160 ?_;refine aj ?_;refine Zl az ?_;intro g4 w1 n4;have e4:=Nat.le_trans ab.size n4.ge;have l4:=Nat.lt_of_lt_of_le k99.lt n4.ge;replace ab:=ab.step n4.below;replace k99:=k99.step n4.below;have k4:=n4.an;refine bn 0 1 4 (aB ?_);refine Zm ?_;have hcl:=hS _ (sw0.to hle ab k99 sw0.bJ (by omega));have k4l:=k4.lt;have hsb:=ab.size;clear k99;refine Zc (Ze Tryz.func203) hcl ?_;rintro e w6 ⟨hf6,v6,y,p6,o6,dp6,bd6,rfl,⟨S6,hr6,hb6⟩,sw,hres⟩;refine⟨_,rfl,?_⟩;have bel6:=ab.call hf6;have k46:=k4.fz hf6 (by omega);clear ab k4 hcl;have ab:=bel6;have k4:=k46;have hs6:=hf6.size;obtain⟨AX,cX,hvX⟩:=hr6.form;subst hvX;have rs:fa g4 w6.heap.size 0 y (.agg (sc y AX cX)) w6:=⟨Nat.le_refl _,S6,hr6,fun b h=>⟨by have:=(hb6 b h).1;omega,(hb6 b h).2,by have:=(hb6 b h).1;omega⟩⟩;refine Zl az ?_;intro g5 w2 n5;have q5:=n5.ge;have e5:=Nat.le_trans ab.size n5.ge;have l5:=Nat.lt_of_lt_of_le k4.lt n5.ge;replace ab:=ab.step n5.below;replace k4:=k4.step n5.below;replace sw:=sw.step n5.below;replace rs:=rs.step n5.below;have k5:=n5.an;refine Zo 4 k5 ?_;intro w3 pw3;replace ab:=ab.put k5 pw3 e5;replace k4:=k4.put pw3 (by omega);replace sw:=sw.put k5 pw3 e5;replace rs:=rs.put k5 pw3 e5;replace k5:=pw3.an;refine aQ 0 1 4 5 (aB ?_);refine Za ?_;refine aO 0 1 4 5 6 (aI (Cd.block ?_));have h45:g4<g5:=by omega
 have hg4:w.heap.size≤g4:=by omega
 refine Cd.loop (σ:=Nat × Int × Bool × Bool × Ex × (Option Addr × Nat) × Int) (fun s=>[(0, .pointer (some ⟨K.g,0,none⟩)),(1, .int .i64 ((lvl:Int)+1)),(4, .pointer (some ⟨g4,0,none⟩)),(5, .pointer (some ⟨g5,0,none⟩)),(6, .int .i64 s.2.2.2.2.2.2)])
  (fun s wr=>GK K R d lvl p w g4 g5 s.1 s.2.1 s.2.2.1 s.2.2.2.1 s.2.2.2.2.1 s.2.2.2.2.2.1.1 s.2.2.2.2.2.1.2 s.2.2.2.2.2.2 wr) (fun s=>if s.2.2.2.1=true then 0 else K.ws.length-s.1+1) (p6,o6,dp6,bd6,y,(AX,cX),9)
  ⟨sw,ab,k4,k5,(rs.but q5).up,fun hb=> ?_,fun hb=> ?_⟩ ⟨rfl,rfl,rfl,rfl,rfl,trivial⟩ ?_
 ·dsimp only at hb⊢
  subst hb;unfold eC at hres
  cases hr:(cg K.ws).S p d with
  |out=>rw[hr] at hres;exact hres.elim
  |bad a b=>rw[hr] at hres;cases hres.2.2.1
  |ok a b=>
   rw[hr] at hres hR0;obtain⟨rfl,rfl,rfl,rfl,-⟩:=hres;exact⟨rfl,rfl,(jT K.ws).S _ _ _ _ hr,k0,by omega, .inr ⟨rfl,hk0⟩,hR0⟩
 ·dsimp only at hb⊢
  subst hb;unfold eC at hres
  cases hr:(cg K.ws).S p d with
  |out=>rw[hr] at hres;exact hres.elim
  |ok a b=>rw[hr] at hres;cases hres.2.2.2.2
  |bad a b=>
   rw[hr] at hres hR0;obtain⟨rfl,rfl,-,h1,h2⟩:=hres;exact⟨hR0,h1,h2⟩
 clear sw ab k4 k5 rs hres hR0;rintro⟨q,o,dp,bd,x,⟨A,c⟩,m⟩ wr ⟨sw,ab,k4,k5,rs,hgood,hbad⟩;dsimp only at sw k5 rs hgood hbad⊢;have k99:=sw.an;have rdw:=sw.Ft;have hsb:=ab.size;have k5l:=k5.lt;refine Cd.seq (aj ?_);refine Zm ?_;refine Zv (aa.nilCheck rfl rfl) ?_;refine Zf 4 Tryz.underlying183 ?_;refine ZL Tryz.underlying4 k99 ?_;refine mD ?_;refine aY 0 1 4 5 6 16 (Zt ?_);refine Cd.cond rfl (fun hc=> ?_) (fun hc=> ?_)
 ·obtain rfl:bd=false:=by simpa using hc
  obtain⟨rfl,rfl,hpq,k,hk5,hm,hRg⟩:=hgood rfl;have hm9:0≤m∧m≤9:=by omega
  have htx:=nT K hK q d false false 0 wr sw (by omega);have htl:=pY hK q false 0;obtain⟨pz,oz,hpz,hpo⟩:=Ea K.ws q;refine Cd.skip (Zt (Cd.block (aj ?_)));refine Zm ?_;refine Zc (Ze Tryz.func156) (htx) ?_;rintro e w7 ⟨rfl,hb7⟩;refine⟨_,rfl,?_⟩;replace ab:=ab.step hb7;replace k4:=k4.step hb7;replace rs:=rs.step hb7;replace k5:=k5.step hb7;replace k99:=k99.step hb7;replace rdw:=rdw.step hb7;have hpw:=AQ (gX K.ws q false 0) w7 htl;rw[hpz] at hpw;refine Zc (Ze Tryz.func204) (hpw) ?_;rintro e w8 ⟨rfl,hb8⟩;refine⟨_,rfl,?_⟩;replace ab:=ab.step hb8;replace k4:=k4.step hb8;replace rs:=rs.step hb8;replace k5:=k5.step hb8;replace k99:=k99.step hb8;replace rdw:=rdw.step hb8;have hpz5:0≤pz∧pz≤5:=by rcases hpo with h|⟨i,h1,h2,-⟩<;>omega
  refine Zm ?_;refine Zx ?_;refine Zx ?_;refine Za ?_;refine Za ?_;refine cB 0 1 4 5 6 7 8 16 (aI (aj ?_));refine Zm ?_;refine Zm ?_;refine eI ?_;refine Zm ?_;refine aw.start ?_;refine bw (fun hcx=>aa.move rfl rfl) ?_;refine Zn (fun hcx=>aa.fh rfl rfl rfl) ?_;refine fg ?_;refine Zm ?_;refine aw.start ?_;refine bw (fun hcx=>aa.move rfl rfl) ?_;refine gq ?_;refine Zn (fun hcx=>aa.gtr rfl rfl rfl) ?_;refine fg ?_;refine dY 0 1 4 5 6 7 8 16 34 (Zt ?_);refine Cd.cond rfl (fun hc2=> ?_) (fun hc2=> ?_)
  ·have hc2:pz<(lvl:Int)+1∨pz=0∨m<pz:=by simpa[or_assoc,and_assoc] using hc2
   have hRn:R= .ok x q:=by
    rw[hRg];refine vL K.ws lvl k x d hk5 fun i op hi=> ?_;rcases hpo with ⟨-,-,h⟩|⟨j,h1,h2,h3,-⟩
    ·rw[h] at hi;cases hi
    ·rw[h3] at hi
     injection hi with hi
     injection hi with hi _
     omega
   have k4b:=k4;have k4l:=k4.lt;refine aj ?_;refine ZW 4 Tryz.underlying105 k5 ?_;refine Zo 4 k4 ?_;intro w4 pw4;replace ab:=ab.put k4 pw4 e4;replace rs:=rs.put k4 pw4 e4;replace k5:=k5.put pw4 (by omega);replace k99:=k99.put pw4 (by omega);replace rdw:=rdw.put k4 pw4 e4;replace k4:=pw4.an;refine dY 0 1 4 5 6 7 8 16 34 (Zt (Cd.ret (ae.af (ae.ag (ae.aX (ae.ag (ae.af ?_)))))));refine gp 4 k4 Tryz.underlying105 ?_;obtain⟨hhi,S',hrep',hb'⟩:=rs;rw[hRn];exact⟨ab,_,_,_,_,_,_,rfl,⟨S',hrep',fun b h=>⟨by have:=(hb' b h).1;omega,by have:=(hb' b h).2.1;omega⟩⟩,rdw.sw k99 sw.bJ sw.ko,rfl,rfl,rfl,rfl,rfl⟩
  have hc2:¬(pz<(lvl:Int)+1∨pz=0∨m<pz):=by simpa[or_assoc,and_assoc] using hc2
  obtain⟨i,rfl,hi5,hpow,hoz⟩:∃i:Nat,pz=(i:Int)+1∧i<5∧lX K.ws q=some (i,oz)∧bm oz:=by
   rcases hpo with ⟨h,-,-⟩|h
   ·exact absurd (.inr (.inl h)) hc2
   ·exact h
  have hq1:=CN hpow;have hR2:=uO K.ws lvl hpow k x d hk5 (by omega) (by omega);rw[←hRg] at hR2;have k4l:=k4.lt;refine Cd.skip (aB ?_);refine Zm ?_;refine Zv (aa.nilCheck rfl rfl) ?_;refine Zf 1 Tryz.underlying183 ?_;refine ZL Tryz.underlying3 k99 ?_;refine cG ?_;refine Zv (aa.nilCheck rfl rfl) ?_;refine Zf 1 Tryz.underlying183 ?_;refine Zq k99 ?_;intro w4 pw4;replace ab:=ab.put k99 pw4 e99;replace k4:=k4.put pw4 (by omega);replace rs:=rs.put k99 pw4 e99;replace k5:=k5.put pw4 (by omega);replace rdw:=rdw.put k99 pw4 e99;replace k99:=pw4.an;refine dY 0 1 4 5 6 7 8 16 34 (aB ?_);refine Zm ?_;refine Zm ?_;refine cG ?_;have swn:SW K _ (q+1) (d:Int) false false:=rdw.sw (by rw[Int.natCast_add];exact k99) (by omega) (by omega);have hcl:=hE (i+1) (q+1) d _ (by omega) (by omega) hd swn;have hcast:((i+1:Nat):Int)+1=(i:Int)+1+1:=by omega
  rw[hcast] at hcl;have hsb3:=ab.size;have k5l3:=k5.lt;clear rdw k99;refine Zc (Ze Tryz.func160) hcl ?_;rintro e wq ⟨hf6,v6,y,p6,o6,dp6,bd6,rfl,⟨S6,hr6,hb6⟩,swq,hres⟩;refine⟨_,rfl,?_⟩;have bel6:=ab.call hf6;have k46:=k4.fz hf6 (by omega);have k56:=k5.fz hf6 (by omega);have rs6:=rs.fz hf6 (by omega);have hs6:=hf6.size;have hhi6:=rs6.1;clear ab k4 k5 rs hcl swn sw;have ab:=bel6;have k4:=k46;have k5:=k56;have rs:=rs6;have sw:=swq;have ry:AU _ wq.heap.size S6 y v6 wq:=⟨hr6,hb6,Nat.le_refl _⟩;have hones:=hr6.aV;obtain⟨AY,cY,hvY⟩:=hr6.form;subst hvY;have k5l:=k5.lt;refine Zl az ?_;intro g9 w5 n9;have q9:=n9.ge;have e9:=Nat.le_trans ab.size n9.ge;have l9:=Nat.lt_of_lt_of_le k5.lt n9.ge;have l9_k4:=Nat.lt_of_lt_of_le k4.lt n9.ge;replace ab:=ab.step n9.below;replace k4:=k4.step n9.below;replace rs:=rs.step n9.below;replace k5:=k5.step n9.below;replace sw:=sw.step n9.below;replace ry:=ry.step n9.below;have k9:=n9.an;refine Zo 4 k9 ?_;intro w6 pw6;replace ab:=ab.put k9 pw6 e9;replace k4:=k4.put pw6 (by omega);replace rs:=rs.put k9 pw6 e9;replace k5:=k5.put pw6 (by omega);replace sw:=sw.put k9 pw6 e9;replace ry:=ry.put k9 pw6 e9;replace k9:=pw6.an;refine dq 0 1 4 5 6 7 8 9 16 34 (aB ?_);refine Zm ?_;refine ZW 4 Tryz.underlying105 k5 ?_;refine ZW 4 Tryz.underlying105 k9 ?_;refine Seq.slice (vs:=[_,_]) (s:=4) rfl rfl rfl Tryz.underlying68 (by kernel_rfl) (az) (by omega) (by omega) ⟨rfl,rfl,trivial⟩ rfl rfl rfl ?_;intro g50 w7 n50;have q50:=n50.ge;have e50:=Nat.le_trans ab.size n50.ge;have l50:=Nat.lt_of_lt_of_le k9.lt n50.ge;have l50_k4:=Nat.lt_of_lt_of_le k4.lt n50.ge;have l50_k5:=Nat.lt_of_lt_of_le k5.lt n50.ge;replace ab:=ab.step n50.below;replace k4:=k4.step n50.below;replace rs:=rs.step n50.below;replace k5:=k5.step n50.below;replace sw:=sw.step n50.below;replace ry:=ry.step n50.below;replace k9:=k9.step n50.below;have k50:=n50.an;refine Zv (aa.build rfl rfl (tr oz _ _)) ?_;refine Zo 4 k5 ?_;intro w8 pw8;replace ab:=ab.put k5 pw8 e5;replace k4:=k4.put pw8 (by omega);replace rs:=rs.put k5 pw8 e5;replace sw:=sw.put k5 pw8 e5;replace ry:=ry.put k5 pw8 e5;replace k9:=k9.put pw8 (by omega);replace k50:=k50.put pw8 (by omega);replace k5:=pw8.an;refine dq 0 1 4 5 6 7 8 9 16 34 (aB ?_);have hadd50:(⟨g50,0,none⟩:Addr).add=fun j=>⟨g50,j,none⟩:=by funext j;unfold Addr.add;split<;>simp_all
  have k5x:aH w8 g5 105 (sc (tZ oz x y) (some ⟨g50,0,none⟩) 2):=k5
  have rs2:fa g4 w8.heap.size g5 (tZ oz x y) (.agg (sc (tZ oz x y) (some ⟨g50,0,none⟩) 2)) w8:=by
   obtain⟨hhi,Sl,hrepl,hbl⟩:=rs;refine⟨Nat.le_refl _,fun b=>Sl b∨S6 b∨b=g50,cw.mk (args:=[x,y]) (vs:=[.agg (sc x A c), .agg (sc y AY cY)]) rfl (by simp) hoz (by unfold bm;omega) (by simp) (by simp) (fun i e v h1 h2=> ?_) (fun _=>⟨⟨g50,0,none⟩,rfl, .inr (.inr rfl),fun j u hu=> ?_⟩),fun b hb=> ?_⟩
   ·match i,h1,h2 with
    |0,h1,h2=>
     simp at h1 h2;subst h1 h2;exact hrepl.mono (fun _ h=> .inl h) (fun _ _=>rfl)
    |1,h1,h2=>
     simp at h1 h2;subst h1 h2;exact ry.rep.mono (fun _ h=> .inr (.inl h)) (fun _ _=>rfl)
    |i+2,h1,_=>simp at h1
   ·rw[hadd50,k50.cell j]
    have hu2:(aN [Value.agg (sc x A c),Value.agg (sc y AY cY)]).toArray[j]? =some u:=by simpa using hu
    exact hu2
   ·have hhiy:=ry.eX
    rcases hb with hb|hb|rfl
    ·obtain⟨h1,h2,h3⟩:=hbl b hb
     exact⟨h1,by omega,h3⟩
    ·obtain⟨h1,h2⟩:=hb6 b hb
     exact⟨by omega,by omega,by omega⟩
    ·exact⟨by omega,k50.lt,by omega⟩
  clear rs ry k5;have rs:=rs2;have k5:=k5x
  have hround:∀m':Int,(m'=if i=2 then 2 else(i:Int)+1)→GK K R d lvl p w g4 g5 p6 o6 dp6 bd6 (tZ oz x y) (some ⟨g50,0,none⟩) 2 m' w8∧(if bd6=true then 0 else K.ws.length-p6+1)<K.ws.length-q+1:=by
   intro m' hm';refine⟨⟨sw,ab,k4,k5,rs,fun hb=> ?_,fun hb=> ?_⟩,?_⟩
   ·subst hb
    unfold eC at hres
    cases hr:(cg K.ws).E (i+1) (q+1) d with
    |out=>rw[hr] at hres;exact hres.elim
    |bad a b=>rw[hr] at hres;cases hres.2.2.1
    |ok a b=>
     rw[hr] at hres hR2;obtain⟨rfl,rfl,rfl,rfl,-⟩:=hres;rw[Rs.bB] at hR2;have hmo:=(jT K.ws).E _ _ _ _ _ hr;refine⟨rfl,rfl,by omega,_,?_,?_,hR2⟩
     ·split<;>omega
     ·rw[hm']
      by_cases h2:i=2
      ·rw[if_pos h2,if_pos h2];left;omega
      ·rw[if_neg h2,if_neg h2];left;omega
   ·subst hb
    unfold eC at hres
    cases hr:(cg K.ws).E (i+1) (q+1) d with
    |out=>rw[hr] at hres;exact hres.elim
    |ok a b=>rw[hr] at hres;cases hres.2.2.2.2
    |bad a b=>
     rw[hr] at hres hR2;obtain⟨rfl,rfl,-,h1,h2⟩:=hres;exact⟨hR2,h1,h2⟩
   ·unfold eC at hres
    cases hr:(cg K.ws).E (i+1) (q+1) d with
    |out=>rw[hr] at hres;exact hres.elim
    |bad a b=>
     rw[hr] at hres;rw[hres.2.2.1,if_pos rfl];omega
    |ok a b=>
     rw[hr] at hres;have hmo:=(jT K.ws).E _ _ _ _ _ hr;obtain⟨-,h1,-,-,h2⟩:=hres;rw[h2,if_neg (by simp)];have:=sw.bJ;omega
  refine Zm ?_;refine Za ?_;refine dq 0 1 4 5 6 7 8 9 16 34 (aB ?_);refine Zm ?_;refine bC ?_;refine dv 0 1 4 5 6 7 8 9 16 34 54 (Zt ?_);refine Cd.ak rfl (fun h3=> ?_) (fun h3=> ?_)
  ·obtain⟨hI,hlt2⟩:=hround 2 (by rw[if_pos (by omega)])
   refine Zr ?_;refine Za ?_;refine dv 0 1 4 5 6 7 8 9 16 34 54 (ae.ah ?_);exact ae.round (p6,o6,dp6,bd6,tZ oz x y,(some ⟨g50,0,none⟩,2),2) ⟨rfl,rfl,rfl,rfl,rfl,trivial⟩ hI hlt2
  ·obtain⟨hI,hlt2⟩:=hround ((i:Int)+1) (by rw[if_neg (by omega)])
   refine Cd.skip (ae.ah ?_);exact ae.round (p6,o6,dp6,bd6,tZ oz x y,(some ⟨g50,0,none⟩,2),(i:Int)+1) ⟨rfl,rfl,rfl,rfl,rfl,trivial⟩ hI hlt2
 ·obtain rfl:bd=true:=by simpa using hc
  obtain⟨hRb,h1,h2⟩:=hbad rfl;have k4l:=k4.lt;refine Cd.exit (ae.aC (ae.aA (ae.ay (aB ?_))));refine ZW 4 Tryz.underlying105 k5 ?_;refine Zo 4 k4 ?_;intro w4 pw4;replace ab:=ab.put k4 pw4 e4;replace rs:=rs.put k4 pw4 e4;replace k5:=k5.put pw4 (by omega);replace k99:=k99.put pw4 (by omega);replace rdw:=rdw.put k4 pw4 e4;replace k4:=pw4.an;refine aY 0 1 4 5 6 16 (Zt (Cd.ret ?_));refine gp 4 k4 Tryz.underlying105 ?_;obtain⟨hhi,S',hrep',hb'⟩:=rs;rw[hRb];exact⟨ab,_,_,_,_,_,_,rfl,⟨S',hrep',fun b h=>⟨by have:=(hb' b h).1;omega,by have:=(hb' b h).2.1;omega⟩⟩,rdw.sw k99 sw.bJ sw.ko,rfl,rfl,rfl,h1,h2⟩
theorem yR (K:Ctx)(hK:K.Ok)(hW:wm K.ws):∀n p,K.ws.length-p<n→(∀(d:Nat) W,d≤64→SW K W p d false false→Calls Tryz.prog 203 #[.pointer (some ⟨K.g,0,none⟩)] W (CR K W.heap.size W (eC ((cg K.ws).S p d) d) (pb W)))∧
  (∀(l d:Nat) W,l≤5→d≤64→SW K W p d false false→Calls Tryz.prog 160 #[.pointer (some ⟨K.g,0,none⟩), .int .i64 ((l:Int)+1)] W (CR K W.heap.size W (eC ((cg K.ws).E l p d) d) (pb W)))
 |0,p,h=>by omega
 |n+1,p,h=>by
  have ih:=yR K hK hW n;have hup:∀q,p<q→q≤K.ws.length→K.ws.length-q<n:=fun q h1 h2=>by omega
  have hS:∀(d:Nat) W,d≤64→SW K W p d false false→Calls Tryz.prog 203 #[.pointer (some ⟨K.g,0,none⟩)] W (CR K W.heap.size W (eC ((cg K.ws).S p d) d) (pb W)):=fun d W hd sw=>by
   rw[Fa];exact xh K hK hW p d _ _ ((jT K.ws).E 0) W sw hd (fun q d W h1 h2 h3=>(ih q (hup q h1 h3.bJ)).1 d W h2 h3) (fun q d W h1 h2 h3=>(ih q (hup q h1 h3.bJ)).2 0 d W (by omega) h2 h3)
  exact⟨hS,fun l d W hl hd sw=>Ab K hK l p d hl W sw hd (fun W h=>hS d W hd h) (fun l q d W h1 h2 h3 h4=>(ih q (hup q h1 h4.bJ)).2 l d W h2 h3 h4)⟩
end Go.Proofs.YtigoimhndlnhfaaGreat