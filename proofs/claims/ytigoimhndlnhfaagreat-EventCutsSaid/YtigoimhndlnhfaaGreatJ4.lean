/-
  Texts that were joined: PanI, PanJ, PanK, PanL, PanM, LexI, LexJ, PanN, PanO, PanP, PanQ, ParB, PanR, PanS, PanT, PanU, PanV, CutA, CutB, CutC, ParC, ParD, ClmA, ClmB, ClmC, ParE, LexK, DateE, LexL, ClmD, ClmE, ClmF, ParF, ClmG, ClmH, TOpen, EvA, EvB, EvL, EvM. Conditions: what each theorem names.
-/
import Derived.Test.YtigoimhndlnhfaaGreatJ3
import Derived.Recover
import Derived.ProofKit
import Derived.OpenShut
import Derived.Lib.SmallJoins
import Derived.Deep.Slices
import Derived.Deep.Fields
import Derived.ChangeSame
set_option linter.unusedSectionVars false
namespace Go.Proofs.YtigoimhndlnhfaaGreat
open Go.RowKit
theorem hZ.all {w w':World}{g m:Nat}{T:TypeId}{cs vc:Array Value}(p:hZ w w' g T (cs.toList.take 0++(vc.toList++cs.toList.drop (0+vc.size))).toArray)(h1:vc.size=m)(h2:cs.size=m):aH w' g T vc:=by
 have hcells:(cs.toList.take 0++(vc.toList++cs.toList.drop (0+vc.size))).toArray=vc:=by
  have:cs.toList.drop (0+vc.size)=[]:=List.drop_of_length_le (by rw[h1];simp[h2]);rw[this];simp
 have:=p.ao
 rwa [hcells] at this
theorem PW.to {K:Ctx}{w W:World}{p d:Nat}{ov:Bool}(h:PW K w p d ov)(hK:K.B≤K.g)(bel:Fz w.heap.size K.g w W)(hb:aH W K.g 219 #[.slice K.A K.ws.length K.c, .int .i64 (p:Int), .int .i64 (d:Int), .bool ov, .int .i64 (K.en:Int)]):PW K W p d ov:=
 ⟨hb,h.rd.below (bel.below (by have:=h.ao.lt;omega) hK),h.dy,h.dP⟩
theorem CB:∀args w,(callFunc 238 args).run Tryz.prog w= .ok (.enter 238 args) w:=fun args w=>aO Tryz.func238 (by kernel_rfl) rfl args w
theorem tH (a:Int)(s:List Nat)(w:World):(Instr.build 105 #[(0, .int .i64 a),(2, .string (strOf s))]).run Tryz.prog w= .ok (.agg #[.int .i64 a, .int .i64 0, .string (strOf s), .slice none 0 0]) w:=by
 have hu:=Tryz.underlying105
 go_simp
def yP (h g:Nat)(xs:List Ex)(W:World):Prop:=∃cs,aH W g 105 cs∧cs.size=4∧∀x,xs[0]? =some x→∃(S:Nat→Prop) (v:Value),cs=v.cells∧cr W S x v∧∀b,S b→h≤b∧b<W.heap.size∧b≠g
theorem yP.fz {h g q:Nat}{xs:List Ex}{W W':World}(m:yP h g xs W)(f:Fz W.heap.size q W W')(hq:q<h)(hg:h≤g):yP h g xs W':=by
 obtain⟨cs,h1,h2,h3⟩:=m;refine⟨cs,h1.fz f (by omega),h2,fun x hx=> ?_⟩;obtain⟨S,v,e1,e2,e3⟩:=h3 x hx;refine⟨S,v,e1,e2.mono (fun _ h=>h) (fun a ha=>World.cell?_of_block (f.block _ (e3 _ ha).2.1 (by have:=(e3 _ ha).1;omega))),fun b hb=> ?_⟩;obtain⟨b1,b2,b3⟩:=e3 b hb;exact⟨b1,Nat.lt_of_lt_of_le b2 f.size,b3⟩
theorem zF (K:Ctx)(hK:K.Ok)(h0 b1 gt d p:Nat)(T:Nat→Nat→Rs Ex)(w:World)(pw:PW K w p d false)(hg0:K.g<h0)(hgt:h0≤gt)(hh:h0≤w.heap.size)(kb1:aH w b1 189 #[.pointer (some ⟨K.g,0,none⟩)]) (kt:yP h0 gt [] w)
  (hc:∀W,PW K W p d false→Fz w.heap.size K.g w W→Calls Tryz.prog 151 #[.pointer (some ⟨K.g,0,none⟩), .int .i64 0] W (PR K W d (T p d) (Cn W))) (hne:T p d≠ .out):
  Calls Tryz.prog 238 #[.pointer (some ⟨b1,0,none⟩), .pointer (some ⟨gt,0,none⟩)] w (uT K h0 w d (T p d) fun x _ W'=>Kp w W'∧yP h0 gt [x] W'):=by
 have hle:=hK.le;have bel:=Fz.refl w.heap.size K.g w;have k1:=kb1;have hcl:=hc w pw bel;refine Zs 4 Tryz.func238 ?_;refine Zr ?_;refine ZL Tryz.underlying189 k1 ?_;rcases Rs.de hne with ⟨q,ov,hr⟩|⟨x,q,hr⟩
 ·rw[hr] at hcl
  refine Seq.cw (Ze Tryz.func151) rfl hcl ?_;rintro e w6 ⟨hf,rfl,d6,hp6⟩;refine⟨_,rfl,fun a ha=>⟨ha.defers,?_⟩⟩;rw[hr];exact⟨hf.less hh,rfl,d6,hp6⟩
 rw[hr] at hcl⊢;refine Zc (Ze Tryz.func151) (hcl) ?_;rintro e wq ⟨hf,v6,rfl,pwq,S,hrep,hb⟩;refine⟨_,rfl,?_⟩;obtain⟨cs,h1,h2,-⟩:=kt;have kq:=h1.fz hf (by omega);have hones:=hrep.bQ;have hlt:=h1.lt;refine Seq.jQ rfl rfl rfl rfl (m:=4) (by kernel_rfl) hones.1 (iI hones.2) kq (by rw[hones.1,h2];omega) rfl rfl ?_;intro w7 p7;refine dM 0 1 ?_;refine ab.eP rfl (.inr rfl) ?_;have hs:=p7.size
 have hcells:(cs.toList.take 0++(v6.cells.toList++cs.toList.drop (0+v6.cells.size))).toArray=v6.cells:=by
  have:cs.toList.drop (0+v6.cells.size)=[]:=List.drop_of_length_le (by rw[hones.1];simp[h2]);rw[this];simp
 have kb:=p7.ao;rw[hcells] at kb;refine⟨(hf.less hh).trans ((Fz.refl h0 K.g wq).put kq p7 hgt),_,rfl,⟨pwq.ao.put p7 (by omega),pwq.rd.below (p7.below (by omega) kq.lt),pwq.dy,pwq.dP⟩,((Kp.refl w).fz pw.ao hf).put kq p7 hgt,_,kb,hones.1,fun y hy=> ?_⟩;simp at hy;subst hy;exact⟨S,v6,rfl,hrep.mono (fun _ h=>h) (fun a ha=>World.cell?_of_block (p7.grown.block _ (hb _ ha).2 (fun e=>by injection e with e;have:=(hb _ ha).1;omega))),fun b hb'=>⟨by have:=(hb b hb').1;omega,by have:=(hb b hb').2;omega,by have:=(hb b hb').1;omega⟩⟩
theorem Br (K:Ctx)(hK:K.Ok)(E0:Nat→Nat→Rs Ex)(hE:CU K E0)(p d:Nat)(w:World)(pw:PW K w p d false)(hne:j0 K.ws E0 p d≠ .out):
  Calls Tryz.prog 222 #[.pointer (some ⟨K.g,0,none⟩)] w (PR K w d (j0 K.ws E0 p d) (Cn w)):=by
 have bel:=Fz.refl w.heap.size K.g w;have k99:=pw.ao;have e99:K.g=K.g:=rfl;have hlt:=pw.ao.lt;have hlen:=hK.len;have hle:=hK.le;have hpl:=pw.dy;obtain⟨a1,a2,a3,a4,a5⟩:=hK.at_ p;obtain⟨b1,b2,b3⟩:=K.lz p;have hw:=fun W h=>gy K hK p d false W h;unfold Ew at hw
 have hq:j0 K.ws E0 p d=if(K.at_ p).kind=1 then .ok (.mk 1 (K.at_ p).n [] []) (p+1) else if(K.at_ p).kind=2 then .ok (.mk 2 (K.at_ p).n [] []) (p+1) else if(K.at_ p).kind=3 then
   if(K.at_ p).text=Eg then .ok (.mk 4 0 [] []) (p+1) else if(K.at_ p).text=DX then eK K.ws E0 9 2 p d else if(K.at_ p).text=D8 then eK K.ws E0 10 2 p d else if(K.at_ p).text=Fp then eK K.ws E0 21 3 p d else(fW K.ws p).bind fun nm p=> .ok (.mk 3 0 nm []) p
  else if(K.at_ p).kind=0 then(cR K.ws [E0] p d).bind fun xs p=> .ok (xs.getD 0 (.mk 0 0 [] [])) p else .bad p false:=by rw[b1,b2,b3];rfl
 have hp:(K.at_ p).kind≠ -1→p+1≤K.ws.length:=fun hk=>by
  rcases Nat.lt_or_ge p K.ws.length with h|h
  ·exact h
  ·exact absurd (by unfold Ctx.at_;rw[List.getD_eq_getElem?_getD,List.getElem?_eq_none h];rfl) hk
 refine Zs 58 Tryz.func222 ?_;refine aj ?_;refine Seq.box rfl rfl rfl rfl rfl ?_;intro g1 w1 n1;have e1:=Nat.le_trans bel.size n1.ge;have l1:=Nat.lt_of_lt_of_le k99.lt n1.ge;replace bel:=bel.step n1.below;replace k99:=k99.step n1.below;have k1:=n1.ao;refine Zl aw ?_;intro g2 w2 n2;have e2:=Nat.le_trans bel.size n2.ge;have l2:=Nat.lt_of_lt_of_le k1.lt n2.ge;replace bel:=bel.step n2.below;replace k99:=k99.step n2.below;replace k1:=k1.step n2.below;have k2:=n2.ao;refine bu 0 1 2 (aB ?_);refine ZL Tryz.underlying189 k1 ?_;refine Zc (Ze Tryz.func164) (hw _ (pw.to hle bel k99)) ?_;rintro e w5 ⟨rfl,hb5⟩;refine⟨_,rfl,?_⟩;replace bel:=bel.step hb5;replace k99:=k99.step hb5;replace k1:=k1.step hb5;replace k2:=k2.step hb5;refine Zl bA ?_;intro g3 w3 n3;have e3:=Nat.le_trans bel.size n3.ge;have l3:=Nat.lt_of_lt_of_le k2.lt n3.ge;replace bel:=bel.step n3.below;replace k99:=k99.step n3.below;replace k1:=k1.step n3.below;replace k2:=k2.step n3.below;have k3:=n3.ao;refine Zo 4 k3 ?_;intro w4 pw4;replace bel:=bel.put k3 pw4 e3;replace k99:=k99.put pw4 (by omega);replace k1:=k1.put pw4 (by omega);replace k2:=k2.put pw4 (by omega);replace k3:=pw4.ao;refine aZ 0 1 2 3 (aB ?_);refine Zl aw ?_;intro g4 w5 n4;have e4:=Nat.le_trans bel.size n4.ge;have l4:=Nat.lt_of_lt_of_le k3.lt n4.ge;replace bel:=bel.step n4.below;replace k99:=k99.step n4.below;replace k1:=k1.step n4.below;replace k2:=k2.step n4.below;replace k3:=k3.step n4.below;have k4:=n4.ao;refine aU 0 1 2 3 4 (aJ (aj ?_));refine Zf 0 Tryz.underlying221 ?_;refine ZL Tryz.underlying3 k3 ?_;refine bl 0 1 2 3 4 8 (Zt (Cd.block (aj ?_)));refine bq ?_;refine Za ?_;refine bp 0 1 2 3 4 8 11 (Zt ?_);refine Cd.au rfl (fun c1=> ?_) (fun c1=> ?_)
 ·rw[if_pos c1] at hq
  have hp1:=hp (by omega);refine Zr ?_;refine Zf 2 Tryz.underlying221 ?_;refine ZL Tryz.underlying2 k3 ?_;refine Zv (aa.build rfl rfl (oo 1 _ _)) ?_;refine Zo 4 k4 ?_;intro w6 pw6;replace bel:=bel.put k4 pw6 e4;replace k99:=k99.put pw6 (by omega);replace k1:=k1.put pw6 (by omega);replace k2:=k2.put pw6 (by omega);replace k3:=k3.put pw6 (by omega);replace k4:=pw6.ao;refine bp 0 1 2 3 4 8 11 (ab.ai (aB ?_));refine ZL Tryz.underlying189 k1 ?_;refine Zv (aa.nilCheck rfl rfl) ?_;refine Zf 1 Tryz.underlying219 ?_;refine ZL Tryz.underlying3 k99 ?_;refine dt ?_;refine Zv (aa.nilCheck rfl rfl) ?_;refine Zf 1 Tryz.underlying219 ?_;refine Zq k99 ?_;intro w7 pw7;replace bel:=bel.put k99 pw7 e99;replace k1:=k1.put pw7 (by omega);replace k2:=k2.put pw7 (by omega);replace k3:=k3.put pw7 (by omega);replace k4:=k4.put pw7 (by omega);replace k99:=pw7.ao;refine bp 0 1 2 3 4 8 11 (aB ?_);refine ZW 4 Tryz.underlying105 k4 ?_;refine Zo 4 k2 ?_;intro w8 pw8;replace bel:=bel.put k2 pw8 e2;replace k99:=k99.put pw8 (by omega);replace k1:=k1.put pw8 (by omega);replace k3:=k3.put pw8 (by omega);replace k4:=k4.put pw8 (by omega);replace k2:=pw8.ao;refine bp 0 1 2 3 4 8 11 (Zt (Cd.ret ?_));refine jU 4 k2 Tryz.underlying105 ?_;rw[hq];exact⟨bel,_,rfl,pw.next hle hp1 bel k99,fun _=>False,cr.mk (args:=[]) (vs:=[]) rfl (by simp) (by unfold bw;omega) a2 (by simp) (by simp) (fun i e v h=>by simp at h) (fun h=>absurd rfl h),fun b hb=>hb.elim⟩
 rw[if_neg c1] at hq;refine aj ?_;refine bq ?_;refine Za ?_;refine cn 0 1 2 3 4 8 11 16 (Zt ?_);refine Cd.au rfl (fun c2=> ?_) (fun c2=> ?_)
 ·rw[if_pos c2] at hq
  have hp1:=hp (by omega);refine Zr ?_;refine Zf 2 Tryz.underlying221 ?_;refine ZL Tryz.underlying2 k3 ?_;refine Zv (aa.build rfl rfl (oo 2 _ _)) ?_;refine Zo 4 k4 ?_;intro w6 pw6;replace bel:=bel.put k4 pw6 e4;replace k99:=k99.put pw6 (by omega);replace k1:=k1.put pw6 (by omega);replace k2:=k2.put pw6 (by omega);replace k3:=k3.put pw6 (by omega);replace k4:=pw6.ao;refine cn 0 1 2 3 4 8 11 16 (ab.ai (aB ?_));refine ZL Tryz.underlying189 k1 ?_;refine Zv (aa.nilCheck rfl rfl) ?_;refine Zf 1 Tryz.underlying219 ?_;refine ZL Tryz.underlying3 k99 ?_;refine dt ?_;refine Zv (aa.nilCheck rfl rfl) ?_;refine Zf 1 Tryz.underlying219 ?_;refine Zq k99 ?_;intro w7 pw7;replace bel:=bel.put k99 pw7 e99;replace k1:=k1.put pw7 (by omega);replace k2:=k2.put pw7 (by omega);replace k3:=k3.put pw7 (by omega);replace k4:=k4.put pw7 (by omega);replace k99:=pw7.ao;refine cn 0 1 2 3 4 8 11 16 (aB ?_);refine ZW 4 Tryz.underlying105 k4 ?_;refine Zo 4 k2 ?_;intro w8 pw8;replace bel:=bel.put k2 pw8 e2;replace k99:=k99.put pw8 (by omega);replace k1:=k1.put pw8 (by omega);replace k3:=k3.put pw8 (by omega);replace k4:=k4.put pw8 (by omega);replace k2:=pw8.ao;refine cn 0 1 2 3 4 8 11 16 (Zt (Cd.ret ?_));refine jU 4 k2 Tryz.underlying105 ?_;rw[hq];exact⟨bel,_,rfl,pw.next hle hp1 bel k99,fun _=>False,cr.mk (args:=[]) (vs:=[]) rfl (by simp) (by unfold bw;omega) a2 (by simp) (by simp) (fun i e v h=>by simp at h) (fun h=>absurd rfl h),fun b hb=>hb.elim⟩
 rw[if_neg c2] at hq;refine aj ?_;refine bq ?_;refine Za ?_;refine du 0 1 2 3 4 8 11 16 21 (Zt ?_);refine Cd.au rfl (fun c3=> ?_) (fun c3=> ?_)
 ·rw[if_pos c3] at hq
  have hp1:=hp (by omega);refine aj ?_;refine Zf 1 Tryz.underlying221 ?_;refine ZL Tryz.underlying9 k3 ?_;refine ed 0 1 2 3 4 8 11 16 21 24 (Zt (Cd.block (aj ?_)));refine Zv (aa.dq (b:=Eg) rfl rfl rfl a3 (by decide)) ?_;refine Za ?_;refine bT 0 1 2 3 4 8 11 16 21 24 28 (Zt ?_);refine Cd.au rfl (fun c4=> ?_) (fun c4=> ?_)
  ·rw[if_pos c4] at hq
   refine Zr ?_;refine Zv (aa.build rfl rfl (lS 4 _)) ?_;refine Zo 4 k4 ?_;intro w6 pw6;replace bel:=bel.put k4 pw6 e4;replace k99:=k99.put pw6 (by omega);replace k1:=k1.put pw6 (by omega);replace k2:=k2.put pw6 (by omega);replace k3:=k3.put pw6 (by omega);replace k4:=pw6.ao;refine bT 0 1 2 3 4 8 11 16 21 24 28 (ab.ai (ab.ai (aB ?_)));refine ZL Tryz.underlying189 k1 ?_;refine Zv (aa.nilCheck rfl rfl) ?_;refine Zf 1 Tryz.underlying219 ?_;refine ZL Tryz.underlying3 k99 ?_;refine dt ?_;refine Zv (aa.nilCheck rfl rfl) ?_;refine Zf 1 Tryz.underlying219 ?_;refine Zq k99 ?_;intro w7 pw7;replace bel:=bel.put k99 pw7 e99;replace k1:=k1.put pw7 (by omega);replace k2:=k2.put pw7 (by omega);replace k3:=k3.put pw7 (by omega);replace k4:=k4.put pw7 (by omega);replace k99:=pw7.ao;refine bT 0 1 2 3 4 8 11 16 21 24 28 (aB ?_);refine ZW 4 Tryz.underlying105 k4 ?_;refine Zo 4 k2 ?_;intro w8 pw8;replace bel:=bel.put k2 pw8 e2;replace k99:=k99.put pw8 (by omega);replace k1:=k1.put pw8 (by omega);replace k3:=k3.put pw8 (by omega);replace k4:=k4.put pw8 (by omega);replace k2:=pw8.ao;refine bT 0 1 2 3 4 8 11 16 21 24 28 (Zt (Cd.ret ?_));refine jU 4 k2 Tryz.underlying105 ?_;rw[hq];exact⟨bel,_,rfl,pw.next hle hp1 bel k99,fun _=>False,cr.mk (args:=[]) (vs:=[]) rfl (by simp) (by unfold bw;omega) (by unfold bw;omega) (by simp) (by simp) (fun i e v h=>by simp at h) (fun h=>absurd rfl h),fun b hb=>hb.elim⟩
  rw[if_neg c4] at hq;refine aj ?_;refine Zv (aa.dq (b:=DX) rfl rfl rfl a3 (by decide)) ?_;refine Za ?_;refine eS 0 1 2 3 4 8 11 16 21 24 28 31 (Zt ?_);refine Cd.au rfl (fun c5=> ?_) (fun c5=> ?_)
  ·rw[if_pos c5] at hq
   refine aj ?_;refine ZL Tryz.underlying189 k1 ?_;have hcd:=mi K hK E0 hE 9 2 p d _ (pw.to hle bel k99) hp1 (by unfold bw;omega) (by omega) (by rw[←hq];exact hne);rw[←hq] at hcd;have hs0:=bel.size;have hk2:=k2.lt;rcases Rs.de hne with ⟨q,ov,hr⟩|⟨x,q,hr⟩
   ·rw[hr] at hcd
    refine Seq.cw (Ze Tryz.func237) rfl hcd ?_;rintro e w8 ⟨hf,rfl,d6,hp6⟩;refine⟨_,rfl,fun a ha=>⟨ha.defers,?_⟩⟩;rw[hr];exact⟨bel.call hf,rfl,d6,hp6⟩
   rw[hr] at hcd;refine Zc (Ze Tryz.func237) (hcd) ?_;rintro e wq ⟨hf,v6,rfl,pwq,S,hrep,hb⟩;refine⟨_,rfl,?_⟩;replace bel:=bel.call hf;replace k2:=k2.fz hf (by omega);have hones:=hrep.bQ;refine Seq.jQ rfl rfl rfl rfl (m:=4) (by kernel_rfl) hones.1 (iI hones.2) k2 (by rw[hones.1];exact Nat.le_refl _) rfl rfl ?_;intro w9 p9;have pw9:=p9.all hones.1 rfl;have pb9:=bel.put k2 p9 e2;have hlt2:=k2.lt;clear k2 bel;have k2:=pw9;have bel:=pb9;obtain⟨AX,cX,hvX⟩:=hrep.form;refine eS 0 1 2 3 4 8 11 16 21 24 28 31 (Zt (Cd.ret (ab.ah (ab.ah (ab.af ?_)))));subst hvX;refine jU 4 k2 Tryz.underlying105 ?_;rw[hr];refine⟨bel,_,rfl,⟨pwq.ao.put p9 (by omega),pwq.rd.below (p9.below (by omega) hlt2),pwq.dy,pwq.dP⟩,S,hrep.mono (fun _ h=>h) (fun a ha=>World.cell?_of_block (p9.grown.block _ (hb _ ha).2 (fun e=>by injection e with e;have:=(hb _ ha).1;omega))),fun b hb'=> ?_⟩;obtain⟨h1,h2⟩:=hb b hb';have:=p9.size;exact⟨by omega,by omega⟩
  rw[if_neg c5] at hq;refine aj ?_;refine Zv (aa.dq (b:=D8) rfl rfl rfl a3 (by decide)) ?_;refine Za ?_;refine eN 0 1 2 3 4 8 11 16 21 24 28 31 35 (Zt ?_);refine Cd.au rfl (fun c6=> ?_) (fun c6=> ?_)
  ·rw[if_pos c6] at hq
   refine aj ?_;refine ZL Tryz.underlying189 k1 ?_;have hcd:=mi K hK E0 hE 10 2 p d _ (pw.to hle bel k99) hp1 (by unfold bw;omega) (by omega) (by rw[←hq];exact hne);rw[←hq] at hcd;have hs0:=bel.size;have hk2:=k2.lt;rcases Rs.de hne with ⟨q,ov,hr⟩|⟨x,q,hr⟩
   ·rw[hr] at hcd
    refine Seq.cw (Ze Tryz.func237) rfl hcd ?_;rintro e w8 ⟨hf,rfl,d6,hp6⟩;refine⟨_,rfl,fun a ha=>⟨ha.defers,?_⟩⟩;rw[hr];exact⟨bel.call hf,rfl,d6,hp6⟩
   rw[hr] at hcd;refine Zc (Ze Tryz.func237) (hcd) ?_;rintro e wq ⟨hf,v6,rfl,pwq,S,hrep,hb⟩;refine⟨_,rfl,?_⟩;replace bel:=bel.call hf;replace k2:=k2.fz hf (by omega);have hones:=hrep.bQ;refine Seq.jQ rfl rfl rfl rfl (m:=4) (by kernel_rfl) hones.1 (iI hones.2) k2 (by rw[hones.1];exact Nat.le_refl _) rfl rfl ?_;intro w9 p9;have pw9:=p9.all hones.1 rfl;have pb9:=bel.put k2 p9 e2;have hlt2:=k2.lt;clear k2 bel;have k2:=pw9;have bel:=pb9;obtain⟨AX,cX,hvX⟩:=hrep.form;refine eN 0 1 2 3 4 8 11 16 21 24 28 31 35 (Zt (Cd.ret (ab.ah (ab.ah (ab.af ?_)))));subst hvX;refine jU 4 k2 Tryz.underlying105 ?_;rw[hr];refine⟨bel,_,rfl,⟨pwq.ao.put p9 (by omega),pwq.rd.below (p9.below (by omega) hlt2),pwq.dy,pwq.dP⟩,S,hrep.mono (fun _ h=>h) (fun a ha=>World.cell?_of_block (p9.grown.block _ (hb _ ha).2 (fun e=>by injection e with e;have:=(hb _ ha).1;omega))),fun b hb'=> ?_⟩;obtain⟨h1,h2⟩:=hb b hb';have:=p9.size;exact⟨by omega,by omega⟩
  rw[if_neg c6] at hq;refine aj ?_;refine Zv (aa.dq (b:=Fp) rfl rfl rfl a3 (by decide)) ?_;refine Za ?_;refine jc 0 1 2 3 4 8 11 16 21 24 28 31 35 39 (Zt ?_);refine Cd.au rfl (fun c7=> ?_) (fun c7=> ?_)
  ·rw[if_pos c7] at hq
   refine aj ?_;refine ZL Tryz.underlying189 k1 ?_;have hcd:=mi K hK E0 hE 21 3 p d _ (pw.to hle bel k99) hp1 (by unfold bw;omega) (by omega) (by rw[←hq];exact hne);rw[←hq] at hcd;have hs0:=bel.size;have hk2:=k2.lt;rcases Rs.de hne with ⟨q,ov,hr⟩|⟨x,q,hr⟩
   ·rw[hr] at hcd
    refine Seq.cw (Ze Tryz.func237) rfl hcd ?_;rintro e w8 ⟨hf,rfl,d6,hp6⟩;refine⟨_,rfl,fun a ha=>⟨ha.defers,?_⟩⟩;rw[hr];exact⟨bel.call hf,rfl,d6,hp6⟩
   rw[hr] at hcd;refine Zc (Ze Tryz.func237) (hcd) ?_;rintro e wq ⟨hf,v6,rfl,pwq,S,hrep,hb⟩;refine⟨_,rfl,?_⟩;replace bel:=bel.call hf;replace k2:=k2.fz hf (by omega);have hones:=hrep.bQ;refine Seq.jQ rfl rfl rfl rfl (m:=4) (by kernel_rfl) hones.1 (iI hones.2) k2 (by rw[hones.1];exact Nat.le_refl _) rfl rfl ?_;intro w9 p9;have pw9:=p9.all hones.1 rfl;have pb9:=bel.put k2 p9 e2;have hlt2:=k2.lt;clear k2 bel;have k2:=pw9;have bel:=pb9;obtain⟨AX,cX,hvX⟩:=hrep.form;refine jc 0 1 2 3 4 8 11 16 21 24 28 31 35 39 (Zt (Cd.ret (ab.ah (ab.ah (ab.af ?_)))));subst hvX;refine jU 4 k2 Tryz.underlying105 ?_;rw[hr];refine⟨bel,_,rfl,⟨pwq.ao.put p9 (by omega),pwq.rd.below (p9.below (by omega) hlt2),pwq.dy,pwq.dP⟩,S,hrep.mono (fun _ h=>h) (fun a ha=>World.cell?_of_block (p9.grown.block _ (hb _ ha).2 (fun e=>by injection e with e;have:=(hb _ ha).1;omega))),fun b hb'=> ?_⟩;obtain⟨h1,h2⟩:=hb b hb';have:=p9.size;exact⟨by omega,by omega⟩
  rw[if_neg c7] at hq;have hnm:=ux K hK p d _ (pw.to hle bel k99);refine aj ?_;refine ZL Tryz.underlying189 k1 ?_;rcases Rs.de (uN K.ws p) with ⟨q,ov,hr⟩|⟨x,q,hr⟩
  ·rw[hr] at hnm hq
   refine Seq.cw (Ze Tryz.func168) rfl hnm ?_;rintro e w8 ⟨hf,rfl,d6,hp6⟩;refine⟨_,rfl,fun a ha=>⟨ha.defers,?_⟩⟩;rw[hq];exact⟨bel.call hf,rfl,d6,hp6⟩
  have hx:x=(K.at_ p).text:=by
   unfold fW at hr;split at hr
   ·injection hr with hr;rw[←hr,b2]
   ·cases hr
  rw[hr] at hnm hq;replace hq:j0 K.ws E0 p d= .ok (.mk 3 0 x []) q:=hq;refine Zc (Ze Tryz.func168) (hnm) ?_;rintro e wq ⟨hf,v6,rfl,pwq,rfl⟩;refine⟨_,rfl,?_⟩;replace bel:=bel.call hf;replace k2:=k2.fz hf (by omega);replace k99:=pwq.ao;have loc:=Fz.refl wq.heap.size K.g wq;have hlt2:=k2.lt;refine Zv (aa.build rfl rfl (tH 3 _ _)) ?_;refine Zo 4 k2 ?_;intro w6 pw6;replace bel:=bel.put k2 pw6 e2;replace k99:=k99.put pw6 (by omega);replace k2:=pw6.ao;refine jc 0 1 2 3 4 8 11 16 21 24 28 31 35 39 (Zt (Cd.ret (ab.ah (ab.ah (ab.af ?_)))));refine jU 4 k2 Tryz.underlying105 ?_;rw[hq];exact⟨bel,_,rfl,⟨k99,pwq.rd.below (pw6.below (by omega) hlt2),pwq.dy,pwq.dP⟩,fun _=>False,cr.mk (args:=[]) (vs:=[]) rfl (by simp) (by unfold bw;omega) (by unfold bw;omega) (by rw[hx];exact a3) (by rw[hx];omega) (fun i e v h=>by simp at h) (fun h=>absurd rfl h),fun b hb=>hb.elim⟩
 rw[if_neg c3] at hq;refine aj ?_;refine bq ?_;refine Za ?_;refine ed 0 1 2 3 4 8 11 16 21 43 (Zt ?_);refine Cd.au rfl (fun c8=> ?_) (fun c8=> ?_)
 ·rw[if_pos c8] at hq
  refine aj ?_;refine ZL Tryz.underlying189 k1 ?_;refine Zv (aa.makeFunc (v:= .func (.func 238) #[] #[.pointer (some ⟨g1,0,none⟩), .pointer (some ⟨g4,0,none⟩)]) rfl (show gR _ _=some [] from rfl) (show gR _ _=some [.pointer (some ⟨g1,0,none⟩), .pointer (some ⟨g4,0,none⟩)] from rfl) rfl) ?_;refine Seq.slice (vs:=[_]) (s:=1) rfl rfl rfl Tryz.underlying225 (by kernel_rfl) (er) (by omega) (by omega) ⟨rfl,trivial⟩ rfl rfl rfl ?_;intro g47 w6 n47;have e47:=Nat.le_trans bel.size n47.ge;have l47:=Nat.lt_of_lt_of_le k4.lt n47.ge;replace bel:=bel.step n47.below;replace k99:=k99.step n47.below;replace k1:=k1.step n47.below;replace k2:=k2.step n47.below;replace k3:=k3.step n47.below;replace k4:=k4.step n47.below;have k47:=n47.ao;have pw8:=pw.to hle bel k99;obtain⟨wr,hwr⟩:∃wr,wr=w6:=⟨_,rfl⟩;rw[←hwr] at pw8 bel k1 k2 k4 k47⊢;obtain⟨R,hR⟩:∃R,R=cR K.ws [E0] p d:=⟨_,rfl⟩;rw[←hR] at hq;have hneR:R≠ .out:=Rs.fC (by rw[←hq];exact hne);have hgg4:K.g<g4:=by omega
  have hwi:=jR K hK g4 [E0] [(238,[Value.pointer (some ⟨g1,0,none⟩),Value.pointer (some ⟨g4,0,none⟩)])] (some ⟨g47,0,none⟩) 1
   (fun xs W=>Kp wr W∧yP g4 g4 xs W) p d wr pw8 (Nat.le_of_lt k4.lt) rfl (by simp)
   ⟨Kp.refl wr,_,k4,rfl,fun x hx=>by simp at hx⟩
   (fun xs W W' p d hM hp hf=>⟨hM.1.fz hp.ao hf,hM.2.fz hf hgg4 (Nat.le_refl _)⟩)
   (fun xs W j f cp hM hj=>by
    match j,hj with
    |0,hj=>
     simp at hj;obtain⟨e1,e2⟩:=hj;subst e1 e2;refine⟨_,rfl,?_⟩;have hb:=(hM.1.ao k47).cell 0;exact hb
    |j+1,hj=>simp at hj)
   (fun j f cp hj=>by
    match j,hj with
    |0,hj=>
     simp at hj;obtain⟨e1,e2⟩:=hj;subst e1;exact CB
    |j+1,hj=>simp at hj)
   (fun j f cp one hj ho xs W p' hxl hpw hW hM hne1=>by
    match j,hj,ho,hxl with
    |0,hj,ho,hxl=>
     simp at hj ho;obtain⟨e1,e2⟩:=hj;subst e1 e2 ho;have hx0:xs=[]:=List.eq_nil_of_length_eq_zero hxl;subst hx0;exact(zF K hK g4 g1 g4 (d+1) p' E0 W hpw hgg4 (Nat.le_refl _) hW (hM.1.ao k1) hM.2 (fun W' h1 _=>hE p' (d+1) W' h1 hne1) hne1).mono fun e W' hq=>hq.mono fun a v W' h=>⟨hM.1.trans h.1,h.2⟩
    |j+1,hj,_,_=>simp at hj)
   (by rw[←hR];exact hneR)
  rw[←hR] at hwi;rcases Rs.de hneR with ⟨q,ov,hr⟩|⟨xs,q,hr⟩
  ·rw[hr] at hwi hq
   refine Seq.cw (Ze Tryz.func166) rfl hwi ?_;rintro e w8 ⟨hf,rfl,d6,hp6⟩;refine⟨_,rfl,fun a ha=>⟨ha.defers,?_⟩⟩;rw[hq];exact⟨bel.trans (hf.less (by omega)),rfl,d6,hp6⟩
  have hxl:=iL (hR.symm.trans hr)
  obtain⟨x,rfl⟩:∃x,xs=[x]:=by
   match xs,hxl with
   | [x],_=>exact⟨x,rfl⟩
  rw[hr] at hwi hq;replace hq:j0 K.ws E0 p d= .ok x q:=hq;refine Zc (Ze Tryz.func166) (hwi) ?_;rintro e wq ⟨hf,v6,rfl,pwq,kpq,cs,k4q,hcs4,hx⟩;refine⟨_,rfl,?_⟩;obtain⟨S,v,rfl,hrep,hb⟩:=hx x rfl
  have k2q:aH wq g2 105 #[.int .i64 0, .int .i64 0, .string {data:= #[]}, .slice none 0 0]:=by
   have h2:aH wr g2 105 #[.int .i64 0, .int .i64 0, .string {data:= #[]}, .slice none 0 0]:=k2;have h1:=hf.block g2 (by omega) (by omega);unfold aH at h2⊢;rw[h1];exact h2
  have belq:Fz w.heap.size K.g w wq:=bel.trans (hf.less (by omega));clear bel k1 k2 k3 k4 k47 k99;have bel:=belq;have k2:=k2q;obtain⟨AX,cX,hvX⟩:=hrep.form;subst hvX;have k4:=k4q;have hlt2:=k2.lt;refine ed 0 1 2 3 4 8 11 16 21 43 (aB ?_);refine ZW 4 Tryz.underlying105 k4 ?_;refine Zo 4 k2 ?_;intro w7 pw7;replace bel:=bel.put k2 pw7 e2;replace k4:=k4.put pw7 (by omega);replace k2:=pw7.ao;refine ed 0 1 2 3 4 8 11 16 21 43 (Zt (Cd.ret (ab.ah (ab.af ?_))));refine jU 4 k2 Tryz.underlying105 ?_;rw[hq];refine⟨bel,_,rfl,⟨pwq.ao.put pw7 (by omega),pwq.rd.below (pw7.below (by omega) hlt2),pwq.dy,pwq.dP⟩,S,hrep.mono (fun _ h=>h) (fun a ha=>World.cell?_of_block (pw7.grown.block _ (hb _ ha).2.1 (fun e=>by injection e with e;have:=(hb _ ha).1;omega))),fun b hb'=> ?_⟩;obtain⟨h1,h2,h3⟩:=hb b hb';have:=pw7.size;exact⟨by omega,by omega⟩
 rw[if_neg c8] at hq;refine Zr ?_;refine ZL Tryz.underlying189 k1 ?_;refine Seq.cw (Ze Tryz.func165) rfl (jy K.g _) ?_;rintro e w6 ⟨rfl,hb6⟩;refine⟨_,rfl,fun a ha=>⟨ha.defers,?_⟩⟩;rw[hq];exact⟨bel.step hb6,rfl,d,pw.to hle (bel.step hb6) (k99.step hb6)⟩
theorem mO (a:Int)(g:Nat)(w:World):(Instr.build 105 #[(0, .int .i64 a),(3, .slice (some ⟨g,0,none⟩) 1 1)]).run Tryz.prog w= .ok (.agg #[.int .i64 a, .int .i64 0, .string (strOf []), .slice (some ⟨g,0,none⟩) 1 1]) w:=by
 have hu:=Tryz.underlying105
 go_simp
 rfl
structure DL (lo hi:Nat)(S:Nat→Prop)(x:Ex)(v:Value)(W:World):Prop where
 rep:cr W S x v
 bd:∀b,S b→lo≤b∧b<hi
 eV:hi≤W.heap.size
theorem DL.step {lo hi:Nat}{S:Nat→Prop}{x:Ex}{v:Value}{W W':World}(r:DL lo hi S x v W)(h:Below W.heap.size W W'):DL lo hi S x v W':=
 ⟨r.rep.mono (fun _ h=>h) (fun a ha=>h.cell (Nat.lt_of_lt_of_le (r.bd _ ha).2 r.eV)),r.bd,Nat.le_trans r.eV h.size⟩
theorem DL.put {lo hi g:Nat}{T:TypeId}{cur cs:Array Value}{S:Nat→Prop}{x:Ex}{v:Value}{W W':World}(r:DL lo hi S x v W)(_k:aH W g T cur)(p:hZ W W' g T cs){E:Prop}(_e:E)(hne:g<lo∨hi≤g:=by omega):DL lo hi S x v W':=
 ⟨r.rep.mono (fun _ h=>h) (fun a ha=>World.cell?_of_block (p.grown.block _ (Nat.lt_of_lt_of_le (r.bd _ ha).2 r.eV) (fun e=>by injection e with e;have:=r.bd _ ha;omega))),r.bd,Nat.le_trans r.eV (Nat.le_of_eq p.size.symm)⟩
def CN (K:Ctx)(S0:Nat→Nat→Rs Ex):Prop:=∀p d W,PW K W p d false→S0 p d≠ .out→Calls Tryz.prog 196 #[.pointer (some ⟨K.g,0,none⟩)] W (PR K W d (S0 p d) (Cn W))
theorem yo (K:Ctx)(hK:K.Ok)(S0 E0:Nat→Nat→Rs Ex)(hS:CN K S0)(hE:CU K E0)(p d:Nat)(w:World)(pw:PW K w p d false)(hne:ec K.ws S0 E0 p d≠ .out):
  Calls Tryz.prog 196 #[.pointer (some ⟨K.g,0,none⟩)] w (PR K w d (ec K.ws S0 E0 p d) (Cn w)):=by
 have bel:=Fz.refl w.heap.size K.g w;have k99:=pw.ao;have e99:K.g=K.g:=rfl;have hlt:=pw.ao.lt;have hlen:=hK.len;have hle:=hK.le;have hpl:=pw.dy;have his:=fun(s:List Nat) (hs:∀x∈s,x<256) W h=>zZ K hK p d false 0 s W h hs;have hq:ec K.ws S0 E0 p d=if zN K.ws p [33]=true then gI S0 19 p d else if zN K.ws p [45]=true then gI S0 20 p d else j0 K.ws E0 p d:=rfl
 have hp:∀s,zN K.ws p s=true→p+1≤K.ws.length:=fun s hk=>by
  rcases Nat.lt_or_ge p K.ws.length with h|h
  ·exact h
  ·unfold zN at hk
   have h1:fT K.ws p=⟨-1,[],0,0⟩:=by unfold fT;rw[List.getD_eq_getElem?_getD,List.getElem?_eq_none h];rfl
   rw[h1] at hk;simp at hk
 refine Zs 35 Tryz.func196 ?_;refine aj ?_;refine Zl aw ?_;intro g2 w1 n2;have e2:=Nat.le_trans bel.size n2.ge;have l2:=Nat.lt_of_lt_of_le k99.lt n2.ge;replace bel:=bel.step n2.below;replace k99:=k99.step n2.below;have k2:=n2.ao;refine dM 0 2 (aB ?_);refine Za ?_;refine bu 0 2 3 (aJ (Cd.block (aj ?_)));refine Zm ?_;refine Zc (Ze Tryz.func221) (his [33] (by decide) _ (pw.to hle bel k99)) ?_;rintro e w5 ⟨rfl,hb5⟩;refine⟨_,rfl,?_⟩;replace bel:=bel.step hb5;replace k99:=k99.step hb5;replace k2:=k2.step hb5;refine Za ?_;refine aZ 0 2 3 7 (Zt ?_);refine Cd.cond rfl (fun c1=> ?_) (fun c1=> ?_)
 ·have c1:zN K.ws p [33]=true:=c1
  have hp1:=hp _ c1;rw[if_pos c1] at hq;have hen:=nv K hK p d _ (pw.to hle bel k99);refine Zr ?_;refine Za ?_;refine aZ 0 2 3 7 (ab.ai (aB ?_));refine Zm ?_;rcases Rs.de (nB p d) with ⟨p2,o2,hr2⟩|⟨u2,p2,hr2⟩
  ·unfold gI at hq
   rw[hr2] at hen hq;refine Seq.cw (Ze Tryz.func209) rfl hen ?_;rintro e w6 ⟨hf,rfl,d6,hp6⟩;refine⟨_,rfl,fun a ha=>⟨ha.defers,?_⟩⟩;rw[hq];exact⟨bel.call hf,rfl,d6,hp6⟩
  have hp2:p2=p:=by
   unfold fG at hr2;split at hr2
   ·cases hr2
   ·injection hr2 with _ h;exact h.symm
  subst hp2;unfold gI at hq;rw[hr2] at hen hq;replace hq:ec K.ws S0 E0 p2 d=(S0 (p2+1) (d+1)).bind fun x p=> .ok (.mk 19 0 [] [x]) p:=hq;have hne1:S0 (p2+1) (d+1)≠ .out:=Rs.fC (by rw[←hq];exact hne);refine Zc (Ze Tryz.func209) (hen) ?_;rintro e we ⟨hfe,v6,rfl,pwe,-⟩;refine⟨_,rfl,?_⟩;replace bel:=bel.call hfe;replace k2:=k2.fz hfe (by omega);replace k99:=pwe.ao;have loc:=Fz.refl we.heap.size K.g we;refine aZ 0 2 3 7 (aB ?_);refine Zm ?_;refine Zv (aa.nilCheck rfl rfl) ?_;refine Zf 1 Tryz.underlying219 ?_;refine ZL Tryz.underlying3 k99 ?_;refine dt ?_;refine Zv (aa.nilCheck rfl rfl) ?_;refine Zf 1 Tryz.underlying219 ?_;refine Zq k99 ?_;intro w2 pw2;replace bel:=bel.put k99 pw2 e99;replace k2:=k2.put pw2 (by omega);replace loc:=loc.put k99 pw2 e99;replace k99:=pw2.ao;refine aZ 0 2 3 7 (aB ?_);refine Zm ?_;have pwn:=pwe.next hle hp1 loc k99;have hun:=hS (p2+1) (d+1) _ pwn hne1;rcases Rs.de hne1 with ⟨q,ov,hr⟩|⟨x,q,hr⟩
  ·rw[hr] at hun hq
   refine Seq.cw (Ze Tryz.func196) rfl hun ?_;rintro e w6 ⟨hf,rfl,d6,hp6⟩;refine⟨_,rfl,fun a ha=>⟨ha.defers,?_⟩⟩;rw[hq];exact⟨bel.call hf,rfl,d6,hp6⟩
  rw[hr] at hun hq;replace hq:ec K.ws S0 E0 p2 d= .ok (.mk 19 0 [] [x]) q:=hq;have hk2:=k2.lt;have hsb:=bel.size;refine Zc (Ze Tryz.func196) (hun) ?_;rintro e wq ⟨hf,v6,rfl,pwq,S,hrep,hb⟩;refine⟨_,rfl,?_⟩;replace bel:=bel.call hf;replace k2:=k2.fz hf (by omega);replace k99:=pwq.ao;have hones:=hrep.bQ;have hsf:=hf.size;have rs:DL _ wq.heap.size S x v6 wq:=⟨hrep,hb,Nat.le_refl _⟩;clear loc;obtain⟨AX,cX,hvX⟩:=hrep.form;subst hvX;have hd64:=pwq.deep;refine Zl aw ?_;intro g4 w3 n4;have q4:=n4.ge;have e4:=Nat.le_trans bel.size n4.ge;have l4:=Nat.lt_of_lt_of_le k2.lt n4.ge;replace bel:=bel.step n4.below;replace k99:=k99.step n4.below;replace k2:=k2.step n4.below;replace rs:=rs.step n4.below;have k4:=n4.ao;refine Zo 4 k4 ?_;intro w4 pw4;replace bel:=bel.put k4 pw4 e4;replace k99:=k99.put pw4 (by omega);replace k2:=k2.put pw4 (by omega);replace rs:=rs.put k4 pw4 e4;replace k4:=pw4.ao;refine aU 0 2 3 4 7 (aB ?_);refine Zm ?_;refine Zv (aa.nilCheck rfl rfl) ?_;refine Zf 2 Tryz.underlying219 ?_;refine ZL Tryz.underlying3 k99 ?_;refine rF ?_;refine Zv (aa.nilCheck rfl rfl) ?_;refine Zf 2 Tryz.underlying219 ?_;refine Zq k99 ?_;intro w5 pw5;replace bel:=bel.put k99 pw5 e99;replace k2:=k2.put pw5 (by omega);replace rs:=rs.put k99 pw5 e99;replace k4:=k4.put pw5 (by omega);replace k99:=pw5.ao;refine aU 0 2 3 4 7 (aB ?_);refine Zm ?_;refine ZW 4 Tryz.underlying105 k4 ?_;refine Seq.slice (vs:=[_]) (s:=4) rfl rfl rfl Tryz.underlying68 (by kernel_rfl) (aw) (by omega) (by omega) ⟨rfl,trivial⟩ rfl rfl rfl ?_;intro g33 w6 n33;have q33:=n33.ge;have e33:=Nat.le_trans bel.size n33.ge;have l33:=Nat.lt_of_lt_of_le k4.lt n33.ge;replace bel:=bel.step n33.below;replace k99:=k99.step n33.below;replace k2:=k2.step n33.below;replace rs:=rs.step n33.below;replace k4:=k4.step n33.below;have k33:=n33.ao;refine Zv (aa.build rfl rfl (mO 19 _ _)) ?_;refine Zo 4 k2 ?_;intro w7 pw7;replace bel:=bel.put k2 pw7 e2;replace k99:=k99.put pw7 (by omega);replace rs:=rs.put k2 pw7 e2;replace k4:=k4.put pw7 (by omega);replace k33:=k33.put pw7 (by omega);replace k2:=pw7.ao;refine aU 0 2 3 4 7 (Zt (Cd.ret ?_));refine jU 4 k2 Tryz.underlying105 ?_;have hcast:((d+1:Nat):Int)-1=(d:Int):=by omega
  rw[hcast] at k99;rw[hq];have hadd:(⟨g33,0,none⟩:Addr).add=fun j=>⟨g33,j,none⟩:=by funext j;unfold Addr.add;split<;>simp_all
  refine⟨bel,_,rfl,⟨k99,pw.rd.below (bel.below (by omega) hle),pwq.dy, .inl (by omega)⟩,(fun b=>S b∨b=g33),cr.mk (args:=[x]) (vs:=[.agg #[.int .i64 x.op, .int .i64 x.n, .string (strOf x.name), .slice AX x.args.length cX]]) rfl (by simp) (by unfold bw;omega) (by unfold bw;omega) (by simp) (by simp) (fun i e v h1 h2=> ?_) (fun _=>⟨⟨g33,0,none⟩,rfl, .inr rfl,fun j u hu=> ?_⟩),fun b hb'=> ?_⟩
  ·match i,h1,h2 with
   |0,h1,h2=>
    simp at h1 h2;subst h1 h2;exact rs.rep.mono (fun _ h=> .inl h) (fun _ _=>rfl)
   |i+1,h1,_=>simp at h1
  ·rw[hadd,k33.cell j]
   have hu2:(ax [Value.agg #[.int .i64 x.op, .int .i64 x.n, .string (strOf x.name), .slice AX x.args.length cX]]).toArray[j]? =some u:=by simpa using hu
   exact hu2
  ·rcases hb' with hb'|rfl
   ·obtain⟨h1,h2⟩:=hb b hb'
    have:=rs.eV;exact⟨by omega,by omega⟩
   ·exact⟨by omega,k33.lt⟩
 have c1:zN K.ws p [33]=false:=c1;rw[if_neg (by rw[c1];simp)] at hq;refine aj ?_;refine Zm ?_;refine Zc (Ze Tryz.func221) (his [45] (by decide) _ (pw.to hle bel k99)) ?_;rintro e w6 ⟨rfl,hb6⟩;refine⟨_,rfl,?_⟩;replace bel:=bel.step hb6;replace k99:=k99.step hb6;replace k2:=k2.step hb6;refine Za ?_;refine aU 0 2 3 7 10 (Zt ?_);refine Cd.cond rfl (fun c2=> ?_) (fun c2=> ?_)
 ·have c2:zN K.ws p [45]=true:=c2
  have hp1:=hp _ c2;rw[if_pos c2] at hq;have hen:=nv K hK p d _ (pw.to hle bel k99);refine Zr ?_;refine Za ?_;refine aU 0 2 3 7 10 (ab.ai (aB ?_));refine Zm ?_;rcases Rs.de (nB p d) with ⟨p2,o2,hr2⟩|⟨u2,p2,hr2⟩
  ·unfold gI at hq
   rw[hr2] at hen hq;refine Seq.cw (Ze Tryz.func209) rfl hen ?_;rintro e w6 ⟨hf,rfl,d6,hp6⟩;refine⟨_,rfl,fun a ha=>⟨ha.defers,?_⟩⟩;rw[hq];exact⟨bel.call hf,rfl,d6,hp6⟩
  have hp2:p2=p:=by
   unfold fG at hr2;split at hr2
   ·cases hr2
   ·injection hr2 with _ h;exact h.symm
  subst hp2;unfold gI at hq;rw[hr2] at hen hq;replace hq:ec K.ws S0 E0 p2 d=(S0 (p2+1) (d+1)).bind fun x p=> .ok (.mk 20 0 [] [x]) p:=hq;have hne1:S0 (p2+1) (d+1)≠ .out:=Rs.fC (by rw[←hq];exact hne);refine Zc (Ze Tryz.func209) (hen) ?_;rintro e we ⟨hfe,v6,rfl,pwe,-⟩;refine⟨_,rfl,?_⟩;replace bel:=bel.call hfe;replace k2:=k2.fz hfe (by omega);replace k99:=pwe.ao;have loc:=Fz.refl we.heap.size K.g we;refine aU 0 2 3 7 10 (aB ?_);refine Zm ?_;refine Zv (aa.nilCheck rfl rfl) ?_;refine Zf 1 Tryz.underlying219 ?_;refine ZL Tryz.underlying3 k99 ?_;refine dt ?_;refine Zv (aa.nilCheck rfl rfl) ?_;refine Zf 1 Tryz.underlying219 ?_;refine Zq k99 ?_;intro w2 pw2;replace bel:=bel.put k99 pw2 e99;replace k2:=k2.put pw2 (by omega);replace loc:=loc.put k99 pw2 e99;replace k99:=pw2.ao;refine aU 0 2 3 7 10 (aB ?_);refine Zm ?_;have pwn:=pwe.next hle hp1 loc k99;have hun:=hS (p2+1) (d+1) _ pwn hne1;rcases Rs.de hne1 with ⟨q,ov,hr⟩|⟨x,q,hr⟩
  ·rw[hr] at hun hq
   refine Seq.cw (Ze Tryz.func196) rfl hun ?_;rintro e w6 ⟨hf,rfl,d6,hp6⟩;refine⟨_,rfl,fun a ha=>⟨ha.defers,?_⟩⟩;rw[hq];exact⟨bel.call hf,rfl,d6,hp6⟩
  rw[hr] at hun hq;replace hq:ec K.ws S0 E0 p2 d= .ok (.mk 20 0 [] [x]) q:=hq;have hk2:=k2.lt;have hsb:=bel.size;refine Zc (Ze Tryz.func196) (hun) ?_;rintro e wq ⟨hf,v6,rfl,pwq,S,hrep,hb⟩;refine⟨_,rfl,?_⟩;replace bel:=bel.call hf;replace k2:=k2.fz hf (by omega);replace k99:=pwq.ao;have hones:=hrep.bQ;have hsf:=hf.size;have rs:DL _ wq.heap.size S x v6 wq:=⟨hrep,hb,Nat.le_refl _⟩;clear loc;obtain⟨AX,cX,hvX⟩:=hrep.form;subst hvX;have hd64:=pwq.deep;refine Zl aw ?_;intro g4 w3 n4;have q4:=n4.ge;have e4:=Nat.le_trans bel.size n4.ge;have l4:=Nat.lt_of_lt_of_le k2.lt n4.ge;replace bel:=bel.step n4.below;replace k99:=k99.step n4.below;replace k2:=k2.step n4.below;replace rs:=rs.step n4.below;have k4:=n4.ao;refine Zo 4 k4 ?_;intro w4 pw4;replace bel:=bel.put k4 pw4 e4;replace k99:=k99.put pw4 (by omega);replace k2:=k2.put pw4 (by omega);replace rs:=rs.put k4 pw4 e4;replace k4:=pw4.ao;refine bl 0 2 3 4 7 10 (aB ?_);refine Zm ?_;refine Zv (aa.nilCheck rfl rfl) ?_;refine Zf 2 Tryz.underlying219 ?_;refine ZL Tryz.underlying3 k99 ?_;refine rF ?_;refine Zv (aa.nilCheck rfl rfl) ?_;refine Zf 2 Tryz.underlying219 ?_;refine Zq k99 ?_;intro w5 pw5;replace bel:=bel.put k99 pw5 e99;replace k2:=k2.put pw5 (by omega);replace rs:=rs.put k99 pw5 e99;replace k4:=k4.put pw5 (by omega);replace k99:=pw5.ao;refine bl 0 2 3 4 7 10 (aB ?_);refine Zm ?_;refine ZW 4 Tryz.underlying105 k4 ?_;refine Seq.slice (vs:=[_]) (s:=4) rfl rfl rfl Tryz.underlying68 (by kernel_rfl) (aw) (by omega) (by omega) ⟨rfl,trivial⟩ rfl rfl rfl ?_;intro g33 w6 n33;have q33:=n33.ge;have e33:=Nat.le_trans bel.size n33.ge;have l33:=Nat.lt_of_lt_of_le k4.lt n33.ge;replace bel:=bel.step n33.below;replace k99:=k99.step n33.below;replace k2:=k2.step n33.below;replace rs:=rs.step n33.below;replace k4:=k4.step n33.below;have k33:=n33.ao;refine Zv (aa.build rfl rfl (mO 20 _ _)) ?_;refine Zo 4 k2 ?_;intro w7 pw7;replace bel:=bel.put k2 pw7 e2;replace k99:=k99.put pw7 (by omega);replace rs:=rs.put k2 pw7 e2;replace k4:=k4.put pw7 (by omega);replace k33:=k33.put pw7 (by omega);replace k2:=pw7.ao;refine bl 0 2 3 4 7 10 (Zt (Cd.ret ?_));refine jU 4 k2 Tryz.underlying105 ?_;have hcast:((d+1:Nat):Int)-1=(d:Int):=by omega
  rw[hcast] at k99;rw[hq];have hadd:(⟨g33,0,none⟩:Addr).add=fun j=>⟨g33,j,none⟩:=by funext j;unfold Addr.add;split<;>simp_all
  refine⟨bel,_,rfl,⟨k99,pw.rd.below (bel.below (by omega) hle),pwq.dy, .inl (by omega)⟩,(fun b=>S b∨b=g33),cr.mk (args:=[x]) (vs:=[.agg #[.int .i64 x.op, .int .i64 x.n, .string (strOf x.name), .slice AX x.args.length cX]]) rfl (by simp) (by unfold bw;omega) (by unfold bw;omega) (by simp) (by simp) (fun i e v h1 h2=> ?_) (fun _=>⟨⟨g33,0,none⟩,rfl, .inr rfl,fun j u hu=> ?_⟩),fun b hb'=> ?_⟩
  ·match i,h1,h2 with
   |0,h1,h2=>
    simp at h1 h2;subst h1 h2;exact rs.rep.mono (fun _ h=> .inl h) (fun _ _=>rfl)
   |i+1,h1,_=>simp at h1
  ·rw[hadd,k33.cell j]
   have hu2:(ax [Value.agg #[.int .i64 x.op, .int .i64 x.n, .string (strOf x.name), .slice AX x.args.length cX]]).toArray[j]? =some u:=by simpa using hu
   exact hu2
  ·rcases hb' with hb'|rfl
   ·obtain⟨h1,h2⟩:=hb b hb'
    have:=rs.eV;exact⟨by omega,by omega⟩
   ·exact⟨by omega,k33.lt⟩
 have c2:zN K.ws p [45]=false:=c2;rw[if_neg (by rw[c2];simp)] at hq;rw[hq] at hne;have hat:=Br K hK E0 hE p d _ (pw.to hle bel k99) hne;refine aj ?_;refine Zm ?_;rcases Rs.de hne with ⟨q,ov,hr⟩|⟨x,q,hr⟩
 ·rw[hr] at hat
  refine Seq.cw (Ze Tryz.func222) rfl hat ?_;rintro e w8 ⟨hf,rfl,d6,hp6⟩;refine⟨_,rfl,fun a ha=>⟨ha.defers,?_⟩⟩;rw[hq,hr];exact⟨bel.call hf,rfl,d6,hp6⟩
 rw[hr] at hat;have hk2:=k2.lt;have hsb:=bel.size;refine Zc (Ze Tryz.func222) (hat) ?_;rintro e wq ⟨hf,v6,rfl,pwq,S,hrep,hb⟩;refine⟨_,rfl,?_⟩;replace bel:=bel.call hf;replace k2:=k2.fz hf (by omega);obtain⟨AX,cX,hvX⟩:=hrep.form;subst hvX;have hlt2:=k2.lt;refine Zo 4 k2 ?_;intro w2 pw2;replace bel:=bel.put k2 pw2 e2;replace k2:=pw2.ao;refine aU 0 2 3 7 10 (Zt (Cd.ret (ab.ah (ab.af ?_))));refine jU 4 k2 Tryz.underlying105 ?_;rw[hq,hr];refine⟨bel,_,rfl,⟨pwq.ao.put pw2 (by omega),pwq.rd.below (pw2.below (by omega) hlt2),pwq.dy,pwq.dP⟩,S,hrep.mono (fun _ h=>h) (fun a ha=>World.cell?_of_block (pw2.grown.block _ (hb _ ha).2 (fun e=>by injection e with e;have:=(hb _ ha).1;omega))),fun b hb'=> ?_⟩;obtain⟨h1,h2⟩:=hb b hb';have:=pw2.size;exact⟨by omega,by omega⟩
def zE (K:Ctx)(n lvl:Nat):Prop:=∀p d W,PW K W p d false→(bM K.ws n).E lvl p d≠ .out→Calls Tryz.prog 151 #[.pointer (some ⟨K.g,0,none⟩), .int .i64 (lvl:Int)] W (PR K W d ((bM K.ws n).E lvl p d) (Cn W))
theorem Ar (K:Ctx)(hK:K.Ok)(n:Nat)(hS:CN K (bM K.ws (n+1)).S):zE K (n+1) 5:=by
 intro p d w pw hne;have he:(bM K.ws (n+1)).E 5 p d=(bM K.ws (n+1)).S p d:=rfl;rw[he] at hne⊢;have bel:=Fz.refl w.heap.size K.g w;have k99:=pw.ao;have e99:K.g=K.g:=rfl;have hlt:=pw.ao.lt;have hle:=hK.le;refine Zs 66 Tryz.func151 ?_;refine aj ?_;refine Zl aw ?_;intro g4 w1 n4;have e4:=Nat.le_trans bel.size n4.ge;have l4:=Nat.lt_of_lt_of_le k99.lt n4.ge;replace bel:=bel.step n4.below;replace k99:=k99.step n4.below;have k4:=n4.ao;refine bu 0 1 4 (aB ?_);refine Zc (Ze Tryz.func195) (qU _) ?_;rintro e w5 ⟨gl,rfl,hb5,-⟩;refine⟨_,rfl,?_⟩;replace bel:=bel.step hb5;replace k99:=k99.step hb5;replace k4:=k4.step hb5;refine Za ?_;refine aZ 0 1 4 5 (aJ (aj ?_));refine Zm ?_;refine Zm ?_;refine Zv (aa.len rfl rfl Tryz.underlying244) ?_;refine bq ?_;refine aU 0 1 4 5 13 (Zt ?_);refine Cd.aY rfl (by decide) ?_;have hun:=hS p d _ (pw.to hle bel k99) hne;refine aj ?_;refine Zm ?_;rcases Rs.de hne with ⟨q,ov,hr⟩|⟨x,q,hr⟩
 ·rw[hr] at hun
  refine Seq.cw (Ze Tryz.func196) rfl hun ?_;rintro e w8 ⟨hf,rfl,d6,hp6⟩;refine⟨_,rfl,fun a ha=>⟨ha.defers,?_⟩⟩;rw[hr];exact⟨bel.call hf,rfl,d6,hp6⟩
 rw[hr] at hun⊢;have hk4:=k4.lt;have hsb:=bel.size;refine Zc (Ze Tryz.func196) (hun) ?_;rintro e wq ⟨hf,v6,rfl,pwq,S,hrep,hb⟩;refine⟨_,rfl,?_⟩;replace bel:=bel.call hf;replace k4:=k4.fz hf (by omega);obtain⟨AX,cX,hvX⟩:=hrep.form;subst hvX;have hlt2:=k4.lt;refine Zo 4 k4 ?_;intro w2 pw2;replace bel:=bel.put k4 pw2 e4;replace k4:=pw2.ao;refine aU 0 1 4 5 13 (Zt (Cd.ret (ab.af ?_)));refine jU 4 k4 Tryz.underlying105 ?_;refine⟨bel,_,rfl,⟨pwq.ao.put pw2 (by omega),pwq.rd.below (pw2.below (by omega) hlt2),pwq.dy,pwq.dP⟩,S,hrep.mono (fun _ h=>h) (fun a ha=>World.cell?_of_block (pw2.grown.block _ (hb _ ha).2 (fun e=>by injection e with e;have:=(hb _ ha).1;omega))),fun b hb'=> ?_⟩;obtain⟨h1,h2⟩:=hb b hb';have:=pw2.size;exact⟨by omega,by omega⟩
theorem zv {ws:List Wd}{lvl p:Nat}(h:(fT ws p).kind≠0∨mr (cS lvl) (fT ws p).text<0):opAt ws lvl p=none:=by
 unfold opAt;split
 ·rfl
 ·rename_i hk
  rcases h with h|h
  ·exact absurd h hk
  ·unfold mr at h
   split at h
   ·omega
   ·rename_i hm
    rw[if_neg hm]
theorem zs {ws:List Wd}{lvl p:Nat}(h1:(fT ws p).kind=0)(h2:¬mr (cS lvl) (fT ws p).text<0):∃(i:Nat) (op:Int),mr (cS lvl) (fT ws p).text=(i:Int)∧i<(jV lvl).length∧(jV lvl)[i]? =some op∧opAt ws lvl p=some op∧bw op:=by
 have hlen:∀lvl,(cS lvl).length=(jV lvl).length:=fun lvl=>by
  unfold cS jV;split<;>rfl
 unfold mr at h2⊢;split at h2
 ·rename_i hm
  rw[if_pos hm];have hi:=List.idxOf_lt_length_of_mem hm;rw[hlen] at hi;obtain⟨op,hop⟩:∃op,(jV lvl)[(cS lvl).idxOf (fT ws p).text]? =some op:=⟨_,List.getElem?_eq_getElem hi⟩;refine⟨_,op,rfl,hi,hop,?_,?_⟩
  ·unfold opAt
   rw[if_neg (by simp[h1]),if_pos hm,hop]
  ·have hm2:=List.mem_of_getElem? hop
   have:∀lvl,∀x∈jV lvl,bw x:=fun lvl=>by
    unfold jV;split<;>simp[bw]
   exact this lvl op hm2
 ·omega
def fu (lo hi ex:Nat)(x:Ex)(v:Value)(W:World):Prop:=hi≤W.heap.size∧∃S:Nat→Prop,cr W S x v∧∀b,S b→lo<b∧b<hi∧b≠ex
theorem fu.bN {lo hi ex:Nat}{x:Ex}{v:Value}{W W':World}(m:fu lo hi ex x v W)(hs:W.heap.size≤W'.heap.size)(hb:∀b,lo<b→b<hi→b≠ex→W'.heap[b]? =W.heap[b]?):fu lo hi ex x v W':=by
 obtain⟨h0,S,h1,h2⟩:=m;exact⟨Nat.le_trans h0 hs,S,h1.mono (fun _ h=>h) (fun a ha=>World.cell?_of_block (hb _ (h2 _ ha).1 (h2 _ ha).2.1 (h2 _ ha).2.2)),h2⟩
theorem fu.step {lo hi ex:Nat}{x:Ex}{v:Value}{W W':World}(m:fu lo hi ex x v W)(h:Below W.heap.size W W'):fu lo hi ex x v W':=m.bN h.size fun b _ h2 _=>h.block b (Nat.lt_of_lt_of_le h2 m.1)
theorem fu.fz {lo hi ex g:Nat}{x:Ex}{v:Value}{W W':World}(m:fu lo hi ex x v W)(h:Fz W.heap.size g W W')(hg:g≤lo):fu lo hi ex x v W':=m.bN h.size fun b h1 h2 _=>h.block b (Nat.lt_of_lt_of_le h2 m.1) (by omega)
theorem fu.put {lo hi ex g:Nat}{x:Ex}{v:Value}{T:TypeId}{cur cs:Array Value}{W W':World}{E:Prop}(m:fu lo hi ex x v W)(_k:aH W g T cur)(p:hZ W W' g T cs)(_e:E)(hg:g≤lo∨g=ex∨hi≤g:=by omega):fu lo hi ex x v W':=
 m.bN (Nat.le_of_eq p.size.symm) fun b h1 h2 h3=>p.grown.block b (Nat.lt_of_lt_of_le h2 m.1) (fun e=>by injection e with e;omega)
theorem fu.but {lo hi ex g:Nat}{x:Ex}{v:Value}{W:World}(m:fu lo hi ex x v W)(hg:hi≤g):fu lo hi g x v W:=by
 obtain⟨h0,S,h1,h2⟩:=m;exact⟨h0,S,h1,fun b h=>⟨(h2 b h).1,(h2 b h).2.1,fun e=>by have:=(h2 b h).2.1;omega⟩⟩
theorem fu.up {lo hi ex:Nat}{x:Ex}{v:Value}{W:World}(m:fu lo hi ex x v W):fu lo W.heap.size ex x v W:=by
 obtain⟨h0,S,h1,h2⟩:=m;exact⟨Nat.le_refl _,S,h1,fun b h=>⟨(h2 b h).1,Nat.lt_of_lt_of_le (h2 b h).2.1 h0,(h2 b h).2.2⟩⟩
abbrev BG (x:Ex)(A:Option Addr)(c:Nat):Array Value:= #[.int .i64 x.op, .int .i64 x.n, .string (strOf x.name), .slice A x.args.length c]
theorem zW (K:Ctx)(hK:K.Ok)(n lvl:Nat)(hlt5:lvl<5)(hup:zE K (n+1) (lvl+1))(hall:∀m,m≤n→zE K m (lvl+1)):zE K (n+1) lvl:=by
 intro p d w pw hne;have he:=Df K.ws n lvl p d hlt5;obtain⟨R,hR⟩:∃R,R=(bM K.ws (n+1)).E lvl p d:=⟨_,rfl⟩;rw[←hR] at hne⊢;rw[←hR] at he;have bel:=Fz.refl w.heap.size K.g w;have k99:=pw.ao;have e99:K.g=K.g:=rfl;have hlt:=pw.ao.lt;have hle:=hK.le;have hlen:=hK.len;have hne1:(bM K.ws (n+1)).E (lvl+1) p d≠ .out:=Rs.fC (by rw[←he];exact hne);refine Zs 66 Tryz.func151 ?_;refine aj ?_;refine Zl aw ?_;intro g4 w1 n4;have e4:=Nat.le_trans bel.size n4.ge;have l4:=Nat.lt_of_lt_of_le k99.lt n4.ge;replace bel:=bel.step n4.below;replace k99:=k99.step n4.below;have k4:=n4.ao;refine bu 0 1 4 (aB ?_);refine Zc (Ze Tryz.func195) (qU _) ?_;rintro e wlv ⟨gl,rfl,hb5,hlv⟩;refine⟨_,rfl,?_⟩;obtain⟨ga,gb,cc,dd,csl,lv⟩:=hlv lvl hlt5;replace bel:=bel.step hb5;replace k99:=k99.step hb5;replace k4:=k4.step hb5;have kp:=Kp.refl wlv;refine Za ?_;refine aZ 0 1 4 5 (aJ (aj ?_));refine Zm ?_;refine Zm ?_;refine Zv (aa.len rfl rfl Tryz.underlying244) ?_;refine bq ?_;refine aU 0 1 4 5 13 (Zt ?_);refine Cd.aS rfl (decide_eq_false (by omega)) ?_;refine Cd.skip (aB ?_);refine Zm ?_;refine Zm ?_;refine dt ?_;have hcl:=hup p d _ (pw.to hle bel k99) hne1;have hcast:((lvl+1:Nat):Int)=(lvl:Int)+1:=by omega
 rw[hcast] at hcl;rcases Rs.de hne1 with ⟨q,ov,hr⟩|⟨x,q,hr⟩
 ·rw[hr] at hcl he
  refine Seq.cw (Ze Tryz.func151) rfl hcl ?_;rintro e w8 ⟨hf,rfl,d6,hp6⟩;refine⟨_,rfl,fun a ha=>⟨ha.defers,?_⟩⟩;rw[he];exact⟨bel.call hf,rfl,d6,hp6⟩
 rw[hr] at hcl he;replace he:R=(bM K.ws (n+1)).L lvl x q d:=he;have hk4:=k4.lt;have hsb:=bel.size;refine Zc (Ze Tryz.func151) (hcl) ?_;rintro e wq ⟨hf,v6,rfl,pwq,S,hrep,hb⟩;refine⟨_,rfl,?_⟩;replace bel:=bel.call hf;replace k4:=k4.fz hf (by omega);replace kp:=kp.fz k99 hf;replace k99:=pwq.ao;obtain⟨AX,cX,hvX⟩:=hrep.form;subst hvX;have rs:fu g4 wq.heap.size 0 x (.agg (BG x AX cX)) wq:=⟨Nat.le_refl _,S,hrep,fun b h=>⟨by have:=(hb b h).1;omega,(hb b h).2,by have:=(hb b h).1;omega⟩⟩;refine Zl aw ?_;intro g6 w2 n6;have q6:=n6.ge;have e6:=Nat.le_trans bel.size n6.ge;have l6:=Nat.lt_of_lt_of_le k4.lt n6.ge;replace bel:=bel.step n6.below;replace k99:=k99.step n6.below;replace k4:=k4.step n6.below;replace kp:=kp.step n6.below;replace rs:=rs.step n6.below;have k6:=n6.ao;refine Zo 4 k6 ?_;intro w3 pw3;replace bel:=bel.put k6 pw3 e6;replace k99:=k99.put pw3 (by omega);replace k4:=k4.put pw3 (by omega);replace kp:=kp.put k6 pw3 e6;replace rs:=rs.put k6 pw3 e6;replace k6:=pw3.ao;refine bl 0 1 4 5 6 13 (Zt (Cd.block ?_));have h46:g4<g6:=by have:=hf.size;omega
 have h96:K.g<g6:=by omega
 refine Cd.loop (σ:=Nat × Ex × (Option Addr × Nat) × Nat) (fun s=>[(0, .pointer (some ⟨K.g,0,none⟩)),(1, .int .i64 (lvl:Int)),(4, .pointer (some ⟨g4,0,none⟩)),(5, .slice (some ⟨gl,0,none⟩) 5 5),(6, .pointer (some ⟨g6,0,none⟩))])
  (fun s wr=>PW K wr s.2.2.2 d false∧Fz w.heap.size K.g w wr∧aH wr g4 105 #[.int .i64 0, .int .i64 0, .string {data:= #[]}, .slice none 0 0]∧aH wr g6 105 (BG s.2.1 s.2.2.1.1 s.2.2.1.2)∧Kp wlv wr∧fu g4 wr.heap.size g6 s.2.1 (.agg (BG s.2.1 s.2.2.1.1 s.2.2.1.2)) wr∧s.1≤n+1∧R=(bM K.ws s.1).L lvl s.2.1 s.2.2.2 d)
  (fun s=>s.1) (n+1,x,(AX,cX),q) ⟨⟨k99,pw.rd.below (bel.below (by omega) hle),pwq.dy,pwq.dP⟩,bel,k4,k6,kp,(rs.but q6).up,Nat.le_refl _,he⟩ ⟨rfl,rfl,rfl,rfl,rfl,trivial⟩ ?_
 clear bel k4 k6 kp rs k99 he hne1 hr hcl;rintro⟨m,left,⟨AL,cL⟩,pl⟩ wr ⟨pw1,bel,k4,k6,kp,rs,hm,he⟩;dsimp only at pw1 k6 rs hm he⊢;have k99:=pw1.ao;have h4r:=k4.lt;have hkps:=kp.size
 obtain⟨m,rfl⟩:∃m',m=m'+1:=by
  cases m with
  |zero=>exact absurd he (by intro h;exact hne (by rw[h];rfl))
  |succ m=>exact⟨m,rfl⟩
 have hstep:R=fX K.ws (bM K.ws m) lvl left pl d:=he;clear he;obtain⟨b1,b2,b3⟩:=K.lz pl;obtain⟨a1,a2,a3,a4,a5⟩:=hK.at_ pl
 have hsig:∀t∈cS lvl,∀x∈t,x<256:=by
  have:∀lvl,∀t∈cS lvl,∀x∈t,x<256:=fun lvl=>by
   unfold cS;split<;>decide
  exact this lvl
 have hw:=gy K hK pl d false wr pw1;unfold Ew at hw;refine Cd.block (aj ?_);refine Zm ?_;refine Zc (Ze Tryz.func164) (hw) ?_;rintro e w8 ⟨rfl,hb8⟩;refine⟨_,rfl,?_⟩;have hs8:=hb8.size;replace bel:=bel.step hb8;replace k99:=k99.step hb8;replace k4:=k4.step hb8;replace kp:=kp.step hb8;replace rs:=rs.step hb8;replace k6:=k6.step hb8;refine Zl bA ?_;intro g7 w4 n7;have q7:=n7.ge;have e7:=Nat.le_trans bel.size n7.ge;have l7:=Nat.lt_of_lt_of_le k6.lt n7.ge;replace bel:=bel.step n7.below;replace k99:=k99.step n7.below;replace k4:=k4.step n7.below;replace kp:=kp.step n7.below;replace rs:=rs.step n7.below;replace k6:=k6.step n7.below;have k7:=n7.ao;refine Zo 4 k7 ?_;intro w5 pw5;replace bel:=bel.put k7 pw5 e7;replace k99:=k99.put pw5 (by omega);replace k4:=k4.put pw5 (by omega);replace kp:=kp.put k7 pw5 e7;replace rs:=rs.put k7 pw5 e7;replace k6:=k6.put pw5 (by omega);replace k7:=pw5.ao;refine bl 0 1 4 5 6 7 (aJ ?_)
 have haddL:Value.pointer (some ((⟨gl,0,none⟩:Addr).add (lvl*3)))= .pointer (some ⟨gl,lvl*3,none⟩):=by
  have:(⟨gl,0,none⟩:Addr).add (lvl*3)=⟨gl,lvl*3,none⟩:=by unfold Addr.add;split<;>simp_all
  rw[this]
 have hsl:(cS lvl).length≤1000:=by
  have:∀lvl,(cS lvl).length≤1000:=fun lvl=>by
   unfold cS;split<;>simp
  exact this lvl
 have hsv:(kr (cS lvl)).toArray.size=(cS lvl).length*1:=by simp[kr]
 refine fV 8 ?_;intro w6 hw6 zw6;replace bel:=bel.step hw6;replace k99:=k99.step hw6;replace k4:=k4.step hw6;replace kp:=kp.step hw6;replace rs:=rs.step hw6;replace k6:=k6.step hw6;replace k7:=k7.step hw6;have zbel:=bel.size;have zlt:=k7.lt;have kl:aH _ gl 248 csl:=kp.ao lv.FF;have ksg:=kp.ao lv.sg;have kop:=kp.ao lv.op;refine eJ ?_;refine eJ ?_;refine Zd (fun w hG=>(aa.aR rfl rfl rfl Tryz.underlying244 (s:=3) (by kernel_rfl) (j:=lvl) rfl (by omega)).cast haddL) ?_;refine Zd (fun w hG=>aa.eR 0 rfl rfl Tryz.underlying248 rfl (by kernel_rfl)) ?_;refine Zd (fun w hG=>aa.an (g:=gl) (i:=lvl*3) rfl rfl Tryz.underlying66 rfl (kl.step hG) lv.s0) ?_;refine fp 1 Tryz.underlying221 ?_;refine eH Tryz.underlying9 k7 ?_;refine Dr.dm rfl (fun w=>Ze Tryz.func139) rfl (fun w hG=>vU (cS lvl) (K.at_ pl).text (some ⟨ga,0,none⟩) cc w.heap.size w (Reads.ao (ksg.step hG) _ hsv) (Nat.le_refl _) hsl hsig a3) ?_;refine Dr.nil ?_;refine br.done (F':=[(0,_),(1,_),(4,_),(5,_),(6,_),(7,_),(29,_)]) rfl ⟨rfl,rfl,rfl,rfl,rfl,rfl,rfl,trivial⟩ ?_;intro w7 hw7 fw7;replace bel:=bel.step hw7;replace k99:=k99.step hw7;replace k4:=k4.step hw7;replace kp:=kp.step hw7;replace rs:=rs.step hw7;replace k6:=k6.step hw7;replace k7:=k7.step hw7;clear kl ksg kop;refine Za ?_;refine bp 0 1 4 5 6 7 8 (aJ (aj ?_));refine Zf 0 Tryz.underlying221 ?_;refine ZL Tryz.underlying3 k7 ?_;refine kL ?_;refine Zm ?_;refine av.start ?_;refine bk (fun hcx=>aa.move rfl rfl) ?_;refine Zn (fun hcx=>aa.lss rfl rfl rfl) ?_;refine eG ?_;refine cn 0 1 4 5 6 7 8 36 (Zt ?_);have pwc:PW K _ pl d false:=⟨k99,pw.rd.below (bel.below (by omega) hle),pw1.dy,pw1.dP⟩;refine Cd.cond rfl (fun hc=> ?_) (fun hc=> ?_)
 ·have hop:opAt K.ws lvl pl=none:=zv (by
   rw[←b1,←b2]
   simpa using hc)
  have hres:R= .ok left pl:=by rw[hstep];unfold fX;rw[hop]
  have hlt4:=k4.lt;have hlt6:=k6.lt;refine aj ?_;refine ZW 4 Tryz.underlying105 k6 ?_;refine Zo 4 k4 ?_;intro w8 pw8;replace bel:=bel.put k4 pw8 e4;replace k99:=k99.put pw8 (by omega);replace kp:=kp.put k4 pw8 e4;replace rs:=rs.put k4 pw8 e4;replace k6:=k6.put pw8 (by omega);replace k7:=k7.put pw8 (by omega);replace k4:=pw8.ao;refine cn 0 1 4 5 6 7 8 36 (Zt (Cd.ret (ab.af (ab.ah (ab.aL (ab.ah ?_))))));refine jU 4 k4 Tryz.underlying105 ?_;rw[hres];have kk:=k99;obtain⟨hhi,S',hrep',hb'⟩:=rs;exact⟨bel,_,rfl,⟨k99,pw.rd.below (bel.below (by omega) hle),pw1.dy,pw1.dP⟩,S',hrep',fun b h=>⟨by have:=(hb' b h).1;omega,by have:=(hb' b h).2.1;omega⟩⟩
 obtain⟨hk0,hix⟩:(fT K.ws pl).kind=0∧¬mr (cS lvl) (fT K.ws pl).text<0:=by
  rw[←b1,←b2]
  simpa using hc
 obtain⟨ix,op,hix1,hix2,hopi,hop,hop64⟩:=zs hk0 hix;rw[←b2] at hix1;have hstep2:R=((bM K.ws m).E (lvl+1) (pl+1) d).bind fun r p=>if lvl=2 then .ok (C4 op left r) p else(bM K.ws m).L lvl (C4 op left r) p d:=by rw[hstep];unfold fX;rw[hop]
 have hp1:pl+1≤K.ws.length:=by
  rcases Nat.lt_or_ge pl K.ws.length with h|h
  ·exact h
  ·have h1:fT K.ws pl=⟨-1,[],0,0⟩:=by unfold fT;rw[List.getD_eq_getElem?_getD,List.getElem?_eq_none h];rfl
   rw[h1] at hk0;exact absurd hk0 (by decide)
 have hne2:(bM K.ws m).E (lvl+1) (pl+1) d≠ .out:=Rs.fC (by rw[←hstep2];exact hne);rw[hix1];refine Cd.skip (aB ?_);refine Zm ?_;refine Zv (aa.nilCheck rfl rfl) ?_;refine Zf 1 Tryz.underlying219 ?_;refine ZL Tryz.underlying3 k99 ?_;refine dt ?_;refine Zv (aa.nilCheck rfl rfl) ?_;refine Zf 1 Tryz.underlying219 ?_;refine Zq k99 ?_;intro w8 pw8;replace bel:=bel.put k99 pw8 e99;replace k4:=k4.put pw8 (by omega);replace kp:=kp.put k99 pw8 e99;replace rs:=rs.put k99 pw8 e99;replace k6:=k6.put pw8 (by omega);replace k7:=k7.put pw8 (by omega);replace k99:=pw8.ao;refine cn 0 1 4 5 6 7 8 36 (aJ ?_);have kl:aH _ gl 248 csl:=kp.ao lv.FF;have kop:=kp.ao lv.op
 have haddI:Value.pointer (some ((⟨gb,0,none⟩:Addr).add ix))= .pointer (some ⟨gb,ix,none⟩):=by
  have:(⟨gb,0,none⟩:Addr).add ix=⟨gb,ix,none⟩:=by unfold Addr.add;split<;>simp_all
  rw[this]
 have hopc:(DI (jV lvl)).toArray[ix]? =some (.int .i64 op):=by
  rw[List.getElem?_toArray,fF,hopi];rfl
 have pwn:PW K w8 (pl+1) d false:=⟨by rw[Int.natCast_add];exact k99,pw.rd.below (bel.below (by omega) hle),hp1,pw1.dP⟩;have hw8g:K.g<w8.heap.size:=k99.lt;have hxl:=hall m (by omega);refine Cd.ot (σT:=Value × (Nat→Prop) × Nat) 15 (by kernel_rfl) rfl rfl (fun σ=>[.slice (some ⟨gl,0,none⟩) 5 5, .int .i64 (lvl:Int), .pointer (some ⟨gl,lvl*3,none⟩), .pointer (some ⟨gl,lvl*3+1,none⟩), .slice (some ⟨gb,0,none⟩) (jV lvl).length dd, .int .i64 (ix:Int), .pointer (some ⟨gb,ix,none⟩), .int .i64 op, .agg (BG left AL cL), .pointer (some ⟨K.g,0,none⟩), .int .i64 (lvl:Int), .int .i64 ((lvl:Int)+1),σ.1, .slice (some ⟨σ.2.2,0,none⟩) 2 2, .agg #[.int .i64 op, .int .i64 0, .string (strOf []), .slice (some ⟨σ.2.2,0,none⟩) 2 2]]) (fun σ S W=>XA cr K w8 (pl+1) d ((bM K.ws m).E (lvl+1) (pl+1) d) (S 12) (S 13) σ.2.1 σ.1 σ.2.2 105 (ax [.agg (BG left AL cL),σ.1]).toArray W) ((undef,fun _=>False,0)) ?_ ?_ ?_
 ·intro w0 hb0 hs0
  exact⟨Fz.of hb0,fun _=>pwn.step hle hb0,fun h=>(by cases h),fun h=>(by cases h)⟩
 ·intro k o ho
  match k,ho with
  |0,ho=>
   injection ho with ho
   subst ho;intro σ S w hS hpre hdc hX;refine Seq.val (aa.move rfl rfl) rfl rfl rfl (Seq.nil ?_);exact ab.aQ rfl rfl rfl hpre rfl (fun _ _=>rfl) hX
  |1,ho=>
   injection ho with ho
   subst ho;intro σ S w hS hpre hdc hX;refine Seq.val (aa.move rfl rfl) rfl rfl rfl (Seq.nil ?_);exact ab.aQ rfl rfl rfl hpre rfl (fun _ _=>rfl) hX
  |2,ho=>
   injection ho with ho
   subst ho;intro σ S w hS hpre hdc hX;refine Seq.val ((aa.aR rfl rfl rfl Tryz.underlying244 (s:=3) (by kernel_rfl) (j:=lvl) rfl (by omega)).cast haddL) rfl rfl rfl (Seq.nil ?_);exact ab.aQ rfl rfl rfl hpre rfl (fun _ _=>rfl) hX
  |3,ho=>
   injection ho with ho
   subst ho;intro σ S w hS hpre hdc hX;refine Seq.val (aa.eR 1 rfl rfl Tryz.underlying248 rfl (by kernel_rfl)) rfl rfl rfl (Seq.nil ?_);exact ab.aQ rfl rfl rfl hpre rfl (fun _ _=>rfl) hX
  |4,ho=>
   injection ho with ho
   subst ho;intro σ S w hS hpre hdc hX;refine Seq.val (aa.an (g:=gl) (i:=lvl*3+1) rfl rfl Tryz.underlying96 rfl (kl.yO k99 hX.fz (Nat.le_refl _)) lv.s1) rfl rfl rfl (Seq.nil ?_);exact ab.aQ rfl rfl rfl hpre rfl (fun _ _=>rfl) hX
  |5,ho=>
   injection ho with ho
   subst ho;intro σ S w hS hpre hdc hX;refine Seq.val (aa.move rfl rfl) rfl rfl rfl (Seq.nil ?_);exact ab.aQ rfl rfl rfl hpre rfl (fun _ _=>rfl) hX
  |6,ho=>
   injection ho with ho
   subst ho;intro σ S w hS hpre hdc hX;refine Seq.val ((aa.dg rfl rfl rfl Tryz.underlying96 (by kernel_rfl) (j:=ix) rfl hix2).cast haddI) rfl rfl rfl (Seq.nil ?_);exact ab.aQ rfl rfl rfl hpre rfl (fun _ _=>rfl) hX
  |7,ho=>
   injection ho with ho
   subst ho;intro σ S w hS hpre hdc hX;refine Seq.val (aa.an (g:=gb) (i:=ix) rfl rfl Tryz.underlying3 rfl (kop.yO k99 hX.fz (Nat.le_refl _)) hopc) rfl rfl rfl (Seq.nil ?_);exact ab.aQ rfl rfl rfl hpre rfl (fun _ _=>rfl) hX
  |8,ho=>
   injection ho with ho
   subst ho;intro σ S w hS hpre hdc hX;refine Seq.val (aa.dr rfl rfl Tryz.underlying105 rfl (k6.fz hX.fz (by omega)) (m:=4) (by kernel_rfl) rfl) rfl rfl rfl (Seq.nil ?_);exact ab.aQ rfl rfl rfl hpre rfl (fun _ _=>rfl) hX
  |9,ho=>
   injection ho with ho
   subst ho;intro σ S w hS hpre hdc hX;refine Seq.val (aa.move rfl rfl) rfl rfl rfl (Seq.nil ?_);exact ab.aQ rfl rfl rfl hpre rfl (fun _ _=>rfl) hX
  |10,ho=>
   injection ho with ho
   subst ho;intro σ S w hS hpre hdc hX;refine Seq.val (aa.move rfl rfl) rfl rfl rfl (Seq.nil ?_);exact ab.aQ rfl rfl rfl hpre rfl (fun _ _=>rfl) hX
  |11,ho=>
   injection ho with ho
   subst ho;intro σ S w hS hpre hdc hX;refine Seq.val (aa.qR rfl rfl rfl (by omega) (by omega)) rfl rfl rfl (Seq.nil ?_);exact ab.aQ rfl rfl rfl hpre rfl (fun _ _=>rfl) hX
  |12,ho=>
   injection ho with ho
   subst ho;intro σ S w hS hpre hdc hX
   have h13:S 13=false:=by
    cases h:S 13 with
    |false=>rfl
    |true=>have:=hdc 13 _ rfl h 12 (aG rfl);rw[hS] at this;cases this
   have hcl:=hxl (pl+1) d w (hX.pre hS) hne2;rw[hcast] at hcl;rcases Rs.de hne2 with ⟨q2,ov,hr⟩|⟨y,q2,hr⟩
   ·rw[hr] at hcl
    refine Seq.cw (Ze Tryz.func151) rfl hcl ?_;rintro e w6 ⟨hf,rfl,d6,hp6⟩;refine⟨_,rfl,fun a ha=>⟨ha.defers,?_⟩⟩;rw[hstep2,hr];exact⟨bel.call (hX.fz.call hf),rfl,d6,hp6⟩
   ·rw[hr] at hcl
    refine Zc (Ze Tryz.func151) hcl ?_;rintro e w6 ⟨hf,v6,rfl,hp6,S6,hr6,hb6⟩;refine⟨_,rfl,Seq.nil ?_⟩;have hsz:=hX.fz.size;refine ab.aQ (σ:=σ) (σ':=(v6,S6,σ.2.2)) rfl rfl rfl hpre rfl (fun j hj=> ?_) ⟨hX.fz.call hf,(fun h=>by cases h),fun _=>⟨y,q2,hr,hp6,hr6,fun b hb=>⟨by have:=(hb6 b hb).1;omega,(hb6 b hb).2⟩⟩,fun hm=> ?_⟩
    ·match j,hj with
     |0,_=>rfl
     |1,_=>rfl
     |2,_=>rfl
     |3,_=>rfl
     |4,_=>rfl
     |5,_=>rfl
     |6,_=>rfl
     |7,_=>rfl
     |8,_=>rfl
     |9,_=>rfl
     |10,_=>rfl
     |11,_=>rfl
     |12,hj=>rw[hS] at hj;cases hj
     |13,_=>rfl
     |14,_=>rfl
     |j+15,_=>rfl
    ·have hm:S 13=true:=hm
     rw[h13] at hm;cases hm
  |13,ho=>
   injection ho with ho
   subst ho;intro σ S w hS hpre hdc hX;obtain⟨y,q2,q1,pz,q3,q4⟩:=hX.post (hpre 12 (aG rfl));have hones:=q3.bQ
   have h14:S 14=false:=by
    cases h:S 14 with
    |false=>rfl
    |true=>have:=hdc 14 _ rfl h 13 (aG rfl);rw[hS] at this;cases this
   refine Seq.slice (vs:=[.agg (BG left AL cL),σ.1]) (s:=4) rfl rfl rfl Tryz.underlying68 (by kernel_rfl) aw (by omega) (by omega) ⟨rfl,hones.1,trivial⟩ rfl rfl rfl ?_;intro g7 w' n7;refine Seq.nil ?_;have hsz:=hX.fz.size;refine ab.aQ (σ:=σ) (σ':=(σ.1,σ.2.1,g7)) rfl rfl rfl hpre rfl (fun j hj=> ?_) ⟨hX.fz.step n7.below,fun h=>(hX.pre h).step hle n7.below,fun h=> ?_,fun _=>⟨Nat.le_trans hsz n7.ge,n7.ao,fun h hb=> ?_⟩⟩
   ·match j,hj with
    |0,_=>rfl
    |1,_=>rfl
    |2,_=>rfl
    |3,_=>rfl
    |4,_=>rfl
    |5,_=>rfl
    |6,_=>rfl
    |7,_=>rfl
    |8,_=>rfl
    |9,_=>rfl
    |10,_=>rfl
    |11,_=>rfl
    |12,_=>rfl
    |13,hj=>rw[hS] at hj;cases hj
    |14,hj=>rw[h14] at hj;cases hj
    |j+15,_=>rfl
   ·exact⟨y,q2,q1,pz.step hle n7.below,q3.mono (fun _ h=>h) (fun a ha=>n7.below.cell (q4 _ ha).2),fun b hb=>⟨(q4 b hb).1,Nat.lt_of_lt_of_le (q4 b hb).2 n7.below.size⟩⟩
   ·exact Nat.lt_irrefl _ (Nat.lt_of_lt_of_le (q4 _ hb).2 n7.ge)
  |14,ho=>
   injection ho with ho
   subst ho;intro σ S w hS hpre hdc hX;refine Seq.val (aa.build rfl rfl (vj _ _ _)) rfl rfl rfl (Seq.nil ?_);exact ab.aQ rfl rfl rfl hpre rfl (fun _ _=>rfl) hX
  |k+15,ho=>simp at ho
 rintro⟨vy,Sy,g58⟩ S2 wz hS2 hX;obtain⟨y,q2,hr2,pwz,hrepy,hby⟩:=hX.post (hS2 12 (by decide));obtain⟨e58,k58,hn58⟩:=hX.new (hS2 13 (by decide));dsimp only at hrepy hby e58 k58 hn58;have hn58:=hn58 (hS2 12 (by decide));have fzz:=hX.fz;clear hX;have hs8:=bel.size;have hszz:=fzz.size;have hl4:=k4.lt;have hl6:=k6.lt;have belz:=bel.call fzz;have k4z:=k4.fz fzz (by omega);have k6z:=k6.fz fzz (by omega);have kpz:=kp.fz k99 fzz;have rsz:=rs.fz fzz (by omega);obtain⟨AY,cY,hvY⟩:=hrepy.form;subst hvY;obtain⟨hhi,Sl,hrepl,hbl⟩:=rsz;have hhi8:=rs.1;have hadd58:(⟨g58,0,none⟩:Addr).add=fun j=>⟨g58,j,none⟩:=by funext j;unfold Addr.add;split<;>simp_all
 have rs2:fu g4 wz.heap.size g6 (C4 op left y) (.agg (BG (C4 op left y) (some ⟨g58,0,none⟩) 2)) wz:=by
  refine⟨Nat.le_refl _,fun b=>Sl b∨Sy b∨b=g58,cr.mk (args:=[left,y]) (vs:=[.agg (BG left AL cL), .agg (BG y AY cY)]) rfl (by simp) hop64 (by unfold bw;omega) (by simp) (by simp) (fun i e v h1 h2=> ?_) (fun _=>⟨⟨g58,0,none⟩,rfl, .inr (.inr rfl),fun j u hu=> ?_⟩),fun b hb=> ?_⟩
  ·match i,h1,h2 with
   |0,h1,h2=>
    simp at h1 h2;subst h1 h2;exact hrepl.mono (fun _ h=> .inl h) (fun _ _=>rfl)
   |1,h1,h2=>
    simp at h1 h2;subst h1 h2;exact hrepy.mono (fun _ h=> .inr (.inl h)) (fun _ _=>rfl)
   |i+2,h1,_=>simp at h1
  ·rw[hadd58,k58.cell j]
   have hu2:(ax [Value.agg (BG left AL cL),Value.agg (BG y AY cY)]).toArray[j]? =some u:=by simpa using hu
   exact hu2
  ·rcases hb with hb|hb|rfl
   ·obtain⟨h1,h2,h3⟩:=hbl b hb
    exact⟨h1,by omega,h3⟩
   ·obtain⟨h1,h2⟩:=hby b hb
    exact⟨by omega,h2,by omega⟩
   ·exact⟨by omega,k58.lt,by omega⟩
 have hstep3:R=if lvl=2 then .ok (C4 op left y) q2 else(bM K.ws m).L lvl (C4 op left y) q2 d:=by rw[hstep2,hr2];rfl
 clear bel k4 k6 kp rs k99 k7 kl kop;have bel:=belz;have k4:=k4z;have k6:=k6z;have kp:=kpz;have rs:=rs2;have k99:=pwz.ao;refine Zo 4 k6 ?_;intro w9 pw9;replace bel:=bel.put k6 pw9 e6;replace kp:=kp.put k6 pw9 e6;replace rs:=rs.put k6 pw9 e6;replace k99:=k99.put pw9 (by omega);replace k4:=k4.put pw9 (by omega);replace k6:=pw9.ao;refine cn 0 1 4 5 6 7 8 36 (aB ?_);refine Zm ?_;refine Zm ?_;have kl:aH _ gl 248 csl:=kp.ao lv.FF;refine Zv ((aa.aR rfl rfl rfl Tryz.underlying244 (s:=3) (by kernel_rfl) (j:=lvl) rfl (by omega)).cast haddL) ?_;refine Zv (aa.eR 2 rfl rfl Tryz.underlying248 rfl (by kernel_rfl)) ?_;refine Zv (aa.an (g:=gl) (i:=lvl*3+2) rfl rfl Tryz.underlying4 rfl kl lv.s2) ?_;refine du 0 1 4 5 6 7 8 36 64 (Zt ?_);refine Cd.au rfl (fun h2=> ?_) (fun h2=> ?_)
 ·rw[if_pos h2] at hstep3
  have hlt4:=k4.lt;refine aj ?_;refine ZW 4 Tryz.underlying105 k6 ?_;refine Zo 4 k4 ?_;intro w10 pw10;replace bel:=bel.put k4 pw10 e4;replace kp:=kp.put k4 pw10 e4;replace rs:=rs.put k4 pw10 e4;replace k99:=k99.put pw10 (by omega);replace k6:=k6.put pw10 (by omega);replace k4:=pw10.ao;refine du 0 1 4 5 6 7 8 36 64 (Zt (Cd.ret (ab.ah (ab.aL (ab.ah ?_)))));refine jU 4 k4 Tryz.underlying105 ?_;rw[hstep3];obtain⟨hhi2,S',hrep',hb'⟩:=rs;exact⟨bel,_,rfl,⟨k99,pw.rd.below (bel.below (by omega) hle),pwz.dy,pwz.dP⟩,S',hrep',fun b h=>⟨by have:=(hb' b h).1;omega,by have:=(hb' b h).2.1;omega⟩⟩
 ·rw[if_neg h2] at hstep3
  refine Cd.skip (ab.ai ?_);exact ab.round (m,C4 op left y,(some ⟨g58,0,none⟩,2),q2) ⟨rfl,rfl,rfl,rfl,rfl,trivial⟩ ⟨⟨k99,pw.rd.below (bel.below (by omega) hle),pwz.dy,pwz.dP⟩,bel,k4,k6,kp,rs.up,by dsimp only;omega,hstep3⟩ (by dsimp only;omega)
theorem xL (K:Ctx)(hK:K.Ok)(n:Nat):(∀m,m≤n→CN K (bM K.ws m).S∧∀lvl,lvl≤5→zE K m lvl):=by
 induction n with
 |zero=>
  intro m hm;obtain rfl:m=0:=by omega
  exact⟨fun p d W _ h=>absurd rfl h,fun lvl _ p d W _ h=>absurd rfl h⟩
 |succ n ih=>
  intro m hm;rcases Nat.lt_or_ge m (n+1) with h|h
  ·exact ih m (by omega)
  obtain rfl:m=n+1:=by omega
  obtain⟨i1,i2⟩:=ih n (Nat.le_refl _)
  have hS:CN K (bM K.ws (n+1)).S:=fun p d W hp hne=>by
   have e:(bM K.ws (n+1)).S p d=ec K.ws (bM K.ws n).S ((bM K.ws n).E 0) p d:=rfl;rw[e] at hne⊢;exact yo K hK _ _ i1 (fun p d W hp hne=>i2 0 (by omega) p d W hp hne) p d W hp hne
  refine⟨hS,fun lvl hl=> ?_⟩
  have key:∀j lvl,lvl+j=5→zE K (n+1) lvl:=by
   intro j
   induction j with
   |zero=>intro lvl h;obtain rfl:lvl=5:=(by omega);exact Ar K hK n hS
   |succ j ihj=>intro lvl h;exact zW K hK n lvl (by omega) (ihj (lvl+1) (by omega)) (fun m hm=>(ih m hm).2 (lvl+1) (by omega))
  exact key (5-lvl) lvl (by omega)
def rT (x:Nat × Nat × Nat):Value:= .func (.func x.1) #[] #[.pointer (some ⟨x.2.1,0,none⟩), .pointer (some ⟨x.2.2,0,none⟩)]
def Cp (K:Ctx)(gt:Nat)(x:Nat × Nat × Nat)(W:World):Prop:=aH W x.2.1 227 #[.pointer (some ⟨gt,0,none⟩)]∧aH W x.2.2 189 #[.pointer (some ⟨K.g,0,none⟩)]
def oL (K:Ctx)(gt:Nat)(L:List (Nat × Nat × Nat))(W:World):Prop:=∀x∈L,Cp K gt x W
theorem oL.step {K:Ctx}{gt:Nat}{L:List (Nat × Nat × Nat)}{W W':World}(h:oL K gt L W)(hb:Below W.heap.size W W'):oL K gt L W':=fun x hx=>⟨(h x hx).1.step hb,(h x hx).2.step hb⟩
theorem oL.app {K:Ctx}{gt B B' n size:Nat}{v:Value}{xs:List Value}{L:List (Nat × Nat × Nat)}{W W':World}(h:oL K gt L W)(o:Own W B 1 size v n xs)(ha:App W W' B' v):oL K gt L W':=fun x hx=>⟨(h x hx).1.app o ha,(h x hx).2.app o ha⟩
theorem oL.snoc {K:Ctx}{gt:Nat}{L:List (Nat × Nat × Nat)}{W:World}{x:Nat × Nat × Nat}(h:oL K gt L W)(hx:Cp K gt x W):oL K gt (L++[x]) W:=fun y hy=>by
 rcases List.mem_append.1 hy with hy|hy
 ·exact h y hy
 ·obtain rfl:=List.mem_singleton.1 hy
  exact hx
theorem BI (K:Ctx)(gt:Nat)(w:World):Calls Tryz.prog 171 #[.pointer (some ⟨K.g,0,none⟩), .pointer (some ⟨gt,0,none⟩)] w fun e w'=>(∃a b,e= .returned (rT (212,a,b))∧Cp K gt (212,a,b) w')∧Grow w w':=by
 have bel:=Below.refl w.heap.size w;refine Zs 6 Tryz.func171 ?_;refine aj ?_;refine Seq.box rfl rfl rfl rfl rfl ?_;intro g2 w1 n2;have e2:=Nat.le_trans bel.size n2.ge;replace bel:=bel.step n2.below;have k2:=n2.ao;refine Seq.box rfl rfl rfl rfl rfl ?_;intro g3 w2 n3;have e3:=Nat.le_trans bel.size n3.ge;have l3:=Nat.lt_of_lt_of_le k2.lt n3.ge;replace bel:=bel.step n3.below;replace k2:=k2.step n3.below;have k3:=n3.ao;refine Za ?_;refine aU 0 1 2 3 4 (aB ?_);refine Zv (aa.makeFunc (v:= .func (.func 212) #[] #[.pointer (some ⟨g3,0,none⟩), .pointer (some ⟨g2,0,none⟩)]) rfl (show gR _ _=some [] from rfl) (show gR _ _=some [.pointer (some ⟨g3,0,none⟩), .pointer (some ⟨g2,0,none⟩)] from rfl) rfl) ?_;refine Za ?_;refine aU 0 1 2 3 4 (Zt (Cd.ret ?_));refine aX ?_;exact⟨⟨_,_,rfl,k3,k2⟩,bel⟩
theorem yH (K:Ctx)(gt:Nat)(w:World):Calls Tryz.prog 170 #[.pointer (some ⟨K.g,0,none⟩), .pointer (some ⟨gt,0,none⟩)] w fun e w'=>(∃a b,e= .returned (rT (211,a,b))∧Cp K gt (211,a,b) w')∧Grow w w':=by
 have bel:=Below.refl w.heap.size w;refine Zs 6 Tryz.func170 ?_;refine aj ?_;refine Seq.box rfl rfl rfl rfl rfl ?_;intro g2 w1 n2;have e2:=Nat.le_trans bel.size n2.ge;replace bel:=bel.step n2.below;have k2:=n2.ao;refine Seq.box rfl rfl rfl rfl rfl ?_;intro g3 w2 n3;have e3:=Nat.le_trans bel.size n3.ge;have l3:=Nat.lt_of_lt_of_le k2.lt n3.ge;replace bel:=bel.step n3.below;replace k2:=k2.step n3.below;have k3:=n3.ao;refine Za ?_;refine aU 0 1 2 3 4 (aB ?_);refine Zv (aa.makeFunc (v:= .func (.func 211) #[] #[.pointer (some ⟨g3,0,none⟩), .pointer (some ⟨g2,0,none⟩)]) rfl (show gR _ _=some [] from rfl) (show gR _ _=some [.pointer (some ⟨g3,0,none⟩), .pointer (some ⟨g2,0,none⟩)] from rfl) rfl) ?_;refine Za ?_;refine aU 0 1 2 3 4 (Zt (Cd.ret ?_));refine aX ?_;exact⟨⟨_,_,rfl,k3,k2⟩,bel⟩
theorem Em:∀args w,(callFunc 212 args).run Tryz.prog w= .ok (.enter 212 args) w:=fun args w=>aO Tryz.func212 (by kernel_rfl) rfl args w
theorem Dp:∀args w,(callFunc 211 args).run Tryz.prog w= .ok (.enter 211 args) w:=fun args w=>aO Tryz.func211 (by kernel_rfl) rfl args w
theorem Ae:∀args w,(callFunc 167 args).run Tryz.prog w= .ok (.enter 167 args) w:=fun args w=>aO Tryz.func167 (by kernel_rfl) rfl args w
theorem zp (K:Ctx)(hK:K.Ok)(h0 gt b1 d p:Nat)(op:Int)(nm:List Nat)(vE vT:Value)(w:World)(pw:PW K w p d false)(hg0:K.g<h0)(hgt:h0≤gt)(hh:h0≤w.heap.size)(kt:aH w gt 71 #[.int .i64 op, .string (strOf nm),vE,vT]) (kb1:aH w b1 189 #[.pointer (some ⟨K.g,0,none⟩)]):
  Calls Tryz.prog 167 #[.pointer (some ⟨b1,0,none⟩), .pointer (some ⟨gt,0,none⟩)] w (uT K h0 w d (fW K.ws p) fun x _ W'=>Kp w W'∧aH W' gt 71 #[.int .i64 op, .string (strOf x),vE,vT]):=by
 have hle:=hK.le;have bel:=Fz.refl w.heap.size K.g w;have k1:=kb1;have hcl:=ux K hK p d w pw;have hgl:=kt.lt;have hpl:=pw.ao.lt;refine Zs 5 Tryz.func167 ?_;refine Zr ?_;refine ZL Tryz.underlying189 k1 ?_;rcases Rs.de (uN K.ws p) with ⟨q,ov,hr⟩|⟨x,q,hr⟩
 ·rw[hr] at hcl
  refine Seq.cw (Ze Tryz.func168) rfl hcl ?_;rintro e w6 ⟨hf,rfl,d6,hp6⟩;refine⟨_,rfl,fun a ha=>⟨ha.defers,?_⟩⟩;rw[hr];exact⟨hf.less hh,rfl,d6,hp6⟩
 rw[hr] at hcl⊢;refine Zc (Ze Tryz.func168) (hcl) ?_;rintro e wq ⟨hf,v6,rfl,pwq,rfl⟩;refine⟨_,rfl,?_⟩;clear bel k1;have bel:Fz h0 K.g w wq:=hf.less hh;have kp:=(Kp.refl w).fz pw.ao hf;have k2:=kt.fz hf (by omega);have k99:=pwq.ao;have e2:h0≤gt:=hgt;have loc:Fz h0 K.g wq wq:=Fz.refl _ _ _;refine Zf 1 Tryz.underlying71 ?_;refine Zq k2 ?_;intro w1 pw1;replace bel:=bel.put k2 pw1 e2;replace kp:=kp.put k2 pw1 e2;replace k99:=k99.put pw1 (by omega);replace loc:=loc.put k2 pw1 e2;replace k2:=pw1.ao;refine dM 0 1 ?_;refine ab.eP rfl (.inr rfl) ?_;exact⟨bel,_,rfl,⟨k99,pwq.rd.below (loc.below (by omega) hle),pwq.dy,pwq.dP⟩,kp,k2⟩
def E2 (K:Ctx)(T0:Nat→Nat→Rs Tm):Prop:=∀p d W,PW K W p d false→T0 p d≠ .out→Calls Tryz.prog 128 #[.pointer (some ⟨K.g,0,none⟩)] W (PR K W d (T0 p d) (Fi W))
theorem tf (w:World):(Instr.build 71 #[(0, .int .i64 1)]).run Tryz.prog w= .ok (.agg #[.int .i64 1, .string (strOf []), .slice none 0 0, .slice none 0 0]) w:=by kernel_rfl
theorem uT.EE {α:Type}{K:Ctx}{h d:Nat}{w w':World}{r:Rs α}{ok1 ok2:α→Value→World→Prop}{e:Ending}(hr:uT K h w d r ok1 e w')(hm:∀a p v w',r= .ok a p→ok1 a v w'→ok2 a v w'):uT K h w d r ok2 e w':=by
 refine⟨hr.1,?_⟩
 cases r with
 |out=>exact hr.2
 |bad p o=>exact hr.2
 |ok a p=>obtain⟨v,h1,h2,h3⟩:=hr.2;exact⟨v,h1,h2,hm _ _ _ _ rfl h3⟩
theorem Af {K:Ctx}(hK:K.Ok){p q:Nat}{x:List Nat}(h:fW K.ws p= .ok x q):(∀c∈x,c<256)∧x.length≤4000:=by
 obtain⟨a1,a2,a3,a4,a5⟩:=hK.at_ p;obtain⟨b1,b2,b3⟩:=K.lz p;unfold fW at h;split at h
 ·injection h with h
  rw[←h,←b2];exact⟨a3,a4⟩
 ·cases h
theorem uT.map {α β:Type}{K:Ctx}{h d:Nat}{w w':World}{r:Rs α}{f:α→β}{ok1:α→Value→World→Prop}{ok2:β→Value→World→Prop}{e:Ending}(hr:uT K h w d r ok1 e w')(hm:∀a v w',ok1 a v w'→ok2 (f a) v w'):uT K h w d (r.map f) ok2 e w':=by
 refine⟨hr.1,?_⟩
 cases r with
 |out=>exact hr.2
 |bad p o=>exact hr.2
 |ok a p=>obtain⟨v,h1,h2,h3⟩:=hr.2;exact⟨v,h1,h2,hm _ _ _ h3⟩
theorem BL (K:Ctx)(hK:K.Ok)(E0:Nat→Nat→Rs Ex)(T0:Nat→Nat→Rs Tm)(hE:CU K E0)(hT:E2 K T0)(p d:Nat)(w:World)(pw:PW K w p d false)(hne:iP K.ws E0 T0 p d≠ .out):
  Calls Tryz.prog 128 #[.pointer (some ⟨K.g,0,none⟩)] w (PR K w d (iP K.ws E0 T0 p d) (Fi w)):=by
 have bel:=Fz.refl w.heap.size K.g w;have k99:=pw.ao;have e99:K.g=K.g:=rfl;have hlt:=pw.ao.lt;have hlen:=hK.len;have hle:=hK.le;have hpl:=pw.dy;obtain⟨a1,a2,a3,a4,a5⟩:=hK.at_ p;obtain⟨b1,b2,b3⟩:=K.lz p;have hw:=fun W h=>gy K hK p d false W h;unfold Ew at hw;obtain⟨op,hop⟩:∃op,op=(fH (K.at_ p).text).1:=⟨_,rfl⟩;obtain⟨ne,hnE⟩:∃ne,ne=(fH (K.at_ p).text).2.1:=⟨_,rfl⟩;obtain⟨ns,hnS⟩:∃ns,ns=(fH (K.at_ p).text).2.2:=⟨_,rfl⟩
 have hq:iP K.ws E0 T0 p d=if(K.at_ p).kind≠3 then .bad p false else if(K.at_ p).text=Ah then .ok (.mk 1 [] [] []) (p+1)
   else if(K.at_ p).text=El then(cR K.ws [fun p _=>fW K.ws p] (p+1) d).bind fun xs p=> .ok (.mk 2 (xs.getD 0 []) [] []) p
   else if op=0 then .bad p false else(cR K.ws (jW E0 T0 ne ns) (p+1) d).bind fun xs p=> .ok (.mk op [] (fh xs) (dZ xs)) p:=by
  rw[b1,hop,hnE,hnS,b2];unfold iP;rfl
 have hbd:ne≤1∧ns≤2∧bw op:=by
  rw[hop,hnE,hnS]
  have:∀t,(fH t).2.1≤1∧(fH t).2.2≤2∧bw (fH t).1:=fun t=>by
   unfold fH
   repeat' split
   all_goals exact⟨by decide,by decide,by unfold bw;decide⟩
  exact this _
 have hp:(K.at_ p).kind≠ -1→p+1≤K.ws.length:=fun hk=>by
  rcases Nat.lt_or_ge p K.ws.length with h|h
  ·exact h
  ·exact absurd (by unfold Ctx.at_;rw[List.getD_eq_getElem?_getD,List.getElem?_eq_none h];rfl) hk
 have hterms:=fun W=>zl (K.at_ p).text W a3;rw[←hop,←hnE,←hnS] at hterms;refine Zs 85 Tryz.func128 ?_;refine aj ?_;refine Seq.box rfl rfl rfl rfl rfl ?_;intro g1 w1 n1;have e1:=Nat.le_trans bel.size n1.ge;have l1:=Nat.lt_of_lt_of_le k99.lt n1.ge;replace bel:=bel.step n1.below;replace k99:=k99.step n1.below;have k1:=n1.ao;refine Zl aK ?_;intro g2 w2 n2;have e2:=Nat.le_trans bel.size n2.ge;have l2:=Nat.lt_of_lt_of_le k1.lt n2.ge;replace bel:=bel.step n2.below;replace k99:=k99.step n2.below;replace k1:=k1.step n2.below;have k2:=n2.ao;refine bu 0 1 2 (aB ?_);refine ZL Tryz.underlying189 k1 ?_;refine Zc (Ze Tryz.func164) (hw _ (pw.to hle bel k99)) ?_;rintro e w5 ⟨rfl,hb5⟩;refine⟨_,rfl,?_⟩;replace bel:=bel.step hb5;replace k99:=k99.step hb5;replace k1:=k1.step hb5;replace k2:=k2.step hb5;refine Zl bA ?_;intro g3 w3 n3;have e3:=Nat.le_trans bel.size n3.ge;have l3:=Nat.lt_of_lt_of_le k2.lt n3.ge;replace bel:=bel.step n3.below;replace k99:=k99.step n3.below;replace k1:=k1.step n3.below;replace k2:=k2.step n3.below;have k3:=n3.ao;refine Zo 4 k3 ?_;intro w4 pw4;replace bel:=bel.put k3 pw4 e3;replace k99:=k99.put pw4 (by omega);replace k1:=k1.put pw4 (by omega);replace k2:=k2.put pw4 (by omega);replace k3:=pw4.ao;refine aZ 0 1 2 3 (aJ (aj ?_));refine Zf 0 Tryz.underlying221 ?_;refine ZL Tryz.underlying3 k3 ?_;refine kL ?_;refine aU 0 1 2 3 13 (Zt ?_);refine Cd.au rfl (fun c1=> ?_) (fun c1=> ?_)
 ·rw[if_pos c1] at hq
  refine Zr ?_;refine ZL Tryz.underlying189 k1 ?_;refine Seq.cw (Ze Tryz.func165) rfl (jy K.g _) ?_;rintro e w6 ⟨rfl,hb6⟩;refine⟨_,rfl,fun a ha=>⟨ha.defers,?_⟩⟩;rw[hq];exact⟨bel.step hb6,rfl,d,pw.to hle (bel.step hb6) (k99.step hb6)⟩
 rw[if_neg c1] at hq;have hp1:=hp (by intro h;exact c1 (by rw[h];decide));refine Cd.skip (aB ?_);refine Zl aK ?_;intro g4 w5 n4;have e4:=Nat.le_trans bel.size n4.ge;have l4:=Nat.lt_of_lt_of_le k3.lt n4.ge;replace bel:=bel.step n4.below;replace k99:=k99.step n4.below;replace k1:=k1.step n4.below;replace k2:=k2.step n4.below;replace k3:=k3.step n4.below;have k4:=n4.ao;refine bl 0 1 2 3 4 13 (aJ (aj ?_));refine Zf 1 Tryz.underlying221 ?_;refine ZL Tryz.underlying9 k3 ?_;refine bp 0 1 2 3 4 13 17 (Zt (Cd.block (aj ?_)));refine Zv (aa.dq (b:=Ah) rfl rfl rfl a3 (by decide)) ?_;refine Za ?_;refine cn 0 1 2 3 4 13 17 18 (Zt ?_);refine Cd.au rfl (fun c2=> ?_) (fun c2=> ?_)
 ·rw[if_pos c2] at hq
  refine aj ?_;refine ZL Tryz.underlying189 k1 ?_;refine Zv (aa.nilCheck rfl rfl) ?_;refine Zf 1 Tryz.underlying219 ?_;refine ZL Tryz.underlying3 k99 ?_;refine dt ?_;refine Zv (aa.nilCheck rfl rfl) ?_;refine Zf 1 Tryz.underlying219 ?_;refine Zq k99 ?_;intro w6 pw6;replace bel:=bel.put k99 pw6 e99;replace k1:=k1.put pw6 (by omega);replace k2:=k2.put pw6 (by omega);replace k3:=k3.put pw6 (by omega);replace k4:=k4.put pw6 (by omega);replace k99:=pw6.ao;refine cn 0 1 2 3 4 13 17 18 (aB ?_);refine Zv (aa.build rfl rfl (tf _)) ?_;refine Zo 4 k2 ?_;intro w7 pw7;replace bel:=bel.put k2 pw7 e2;replace k99:=k99.put pw7 (by omega);replace k1:=k1.put pw7 (by omega);replace k3:=k3.put pw7 (by omega);replace k4:=k4.put pw7 (by omega);replace k2:=pw7.ao;refine cn 0 1 2 3 4 13 17 18 (Zt (Cd.ret (ab.ah (ab.af ?_))));refine jU 4 k2 Tryz.underlying71 ?_;rw[hq];exact⟨bel,_,rfl,pw.next hle hp1 bel k99,fun _=>False,dR.mk (es:=[]) (ts:=[]) (vs:=[]) (us:=[]) rfl rfl (by simp) (by simp) (by unfold bw;omega) (by simp) (by simp) (fun i e v h=>by simp at h) (fun i e v h=>by simp at h) (fun h=>absurd rfl h) (fun h=>absurd rfl h),fun b hb=>hb.elim⟩
 rw[if_neg c2] at hq;refine aj ?_;refine Zv (aa.dq (b:=El) rfl rfl rfl a3 (by decide)) ?_;refine Za ?_;refine du 0 1 2 3 4 13 17 18 28 (Zt ?_);refine Cd.au rfl (fun c3=> ?_) (fun c3=> ?_)
 ·rw[if_pos c3] at hq
  refine aj ?_;refine ZL Tryz.underlying189 k1 ?_;refine Zv (aa.nilCheck rfl rfl) ?_;refine Zf 1 Tryz.underlying219 ?_;refine ZL Tryz.underlying3 k99 ?_;refine dt ?_;refine Zv (aa.nilCheck rfl rfl) ?_;refine Zf 1 Tryz.underlying219 ?_;refine Zq k99 ?_;intro w6 pw6;replace bel:=bel.put k99 pw6 e99;replace k1:=k1.put pw6 (by omega);replace k2:=k2.put pw6 (by omega);replace k3:=k3.put pw6 (by omega);replace k4:=k4.put pw6 (by omega);replace k99:=pw6.ao;refine du 0 1 2 3 4 13 17 18 28 (aB ?_);refine Zf 0 Tryz.underlying71 ?_;refine Zq k4 ?_;intro w7 pw7;replace bel:=bel.put k4 pw7 e4;replace k99:=k99.put pw7 (by omega);replace k1:=k1.put pw7 (by omega);replace k2:=k2.put pw7 (by omega);replace k3:=k3.put pw7 (by omega);replace k4:=pw7.ao;refine du 0 1 2 3 4 13 17 18 28 (aB ?_);refine ZL Tryz.underlying189 k1 ?_;refine Zv (aa.makeFunc (v:= .func (.func 167) #[] #[.pointer (some ⟨g1,0,none⟩), .pointer (some ⟨g4,0,none⟩)]) rfl (show gR _ _=some [] from rfl) (show gR _ _=some [.pointer (some ⟨g1,0,none⟩), .pointer (some ⟨g4,0,none⟩)] from rfl) rfl) ?_;refine Seq.slice (vs:=[_]) (s:=1) rfl rfl rfl Tryz.underlying225 (by kernel_rfl) (er) (by omega) (by omega) ⟨rfl,trivial⟩ rfl rfl rfl ?_;intro g40 w8 n40;have e40:=Nat.le_trans bel.size n40.ge;have l40:=Nat.lt_of_lt_of_le k4.lt n40.ge;replace bel:=bel.step n40.below;replace k99:=k99.step n40.below;replace k1:=k1.step n40.below;replace k2:=k2.step n40.below;replace k3:=k3.step n40.below;replace k4:=k4.step n40.below;have k40:=n40.ao;have pw8:PW K w8 (p+1) d false:=⟨by rw[Int.natCast_add];exact k99,pw.rd.below (bel.below (by omega) hle),hp1,pw.dP⟩;obtain⟨R,hR⟩:∃R,R=cR K.ws [fun p _=>fW K.ws p] (p+1) d:=⟨_,rfl⟩;rw[←hR] at hq;have hneR:R≠ .out:=Rs.fC (by rw[←hq];exact hne);have hgg4:K.g<g4:=by omega
  have hwi:=jR K hK g4 [fun p _=>fW K.ws p] [(167,[Value.pointer (some ⟨g1,0,none⟩),Value.pointer (some ⟨g4,0,none⟩)])] (some ⟨g40,0,none⟩) 1
   (fun xs W=>Kp w8 W∧aH W g4 71 #[.int .i64 2, .string (strOf (xs.getD 0 [])), .slice none 0 0, .slice none 0 0]∧∀x∈xs,(∀c∈x,c<256)∧x.length≤4000) (p+1) d w8 pw8 (Nat.le_of_lt k4.lt) rfl (by simp)
   ⟨Kp.refl w8,k4,by simp⟩
   (fun xs W W' p d hM hp hf=>⟨hM.1.fz hp.ao hf,hM.2.1.fz hf (by omega),hM.2.2⟩)
   (fun xs W j f cp hM hj=>by
    match j,hj with
    |0,hj=>
     simp at hj;obtain⟨e1,e2⟩:=hj;subst e1 e2;refine⟨_,rfl,?_⟩;have hb:=(hM.1.ao k40).cell 0;exact hb
    |j+1,hj=>simp at hj)
   (fun j f cp hj=>by
    match j,hj with
    |0,hj=>
     simp at hj;obtain⟨e1,e2⟩:=hj;subst e1;exact Ae
    |j+1,hj=>simp at hj)
   (fun j f cp one hj ho xs W p' hxl hpw hW hM hne1=>by
    match j,hj,ho,hxl with
    |0,hj,ho,hxl=>
     simp at hj ho;obtain⟨e1,e2⟩:=hj;subst e1 e2 ho;have hx0:xs=[]:=List.eq_nil_of_length_eq_zero hxl;subst hx0;exact(zp K hK g4 g4 g1 (d+1) p' 2 _ _ _ W hpw hgg4 (Nat.le_refl _) hW hM.2.1 (hM.1.ao k1)).mono fun e W' hq=>hq.EE fun a p v W' hr h=>⟨hM.1.trans h.1,h.2,fun x hx=>by simp at hx;subst hx;exact Af hK hr⟩
    |j+1,hj,_,_=>simp at hj)
   (by rw[←hR];exact hneR)
  rw[←hR] at hwi;rcases Rs.de hneR with ⟨q,ov,hr⟩|⟨xs,q,hr⟩
  ·rw[hr] at hwi hq
   refine Seq.cw (Ze Tryz.func166) rfl hwi ?_;rintro e w9 ⟨hf,rfl,d6,hp6⟩;refine⟨_,rfl,fun a ha=>⟨ha.defers,?_⟩⟩;rw[hq];exact⟨bel.trans (hf.less (by omega)),rfl,d6,hp6⟩
  have hxl:=iL (hR.symm.trans hr)
  obtain⟨x,rfl⟩:∃x,xs=[x]:=by
   match xs,hxl with
   | [x],_=>exact⟨x,rfl⟩
  rw[hr] at hwi hq;replace hq:iP K.ws E0 T0 p d= .ok (.mk 2 x [] []) q:=hq;refine Zc (Ze Tryz.func166) (hwi) ?_;rintro e wq ⟨hf,v6,rfl,pwq,kpq,k4q,hxb⟩;have hxb:=hxb x (by simp);refine⟨_,rfl,?_⟩
  have k2q:aH wq g2 71 #[.int .i64 0, .string {data:= #[]}, .slice none 0 0, .slice none 0 0]:=by
   have h2:aH w8 g2 71 #[.int .i64 0, .string {data:= #[]}, .slice none 0 0, .slice none 0 0]:=k2;have h1:=hf.block g2 (by omega) (by omega);unfold aH at h2⊢;rw[h1];exact h2
  have belq:Fz w.heap.size K.g w wq:=bel.trans (hf.less (by omega));clear bel k1 k2 k3 k4 k40 k99;have bel:=belq;have k2:=k2q;have k4:aH wq g4 71 #[.int .i64 2, .string (strOf x), .slice none 0 0, .slice none 0 0]:=k4q;have hlt2:=k2.lt;refine du 0 1 2 3 4 13 17 18 28 (aB ?_);refine ZW 4 Tryz.underlying71 k4 ?_;refine Zo 4 k2 ?_;intro w9 pw9;replace bel:=bel.put k2 pw9 e2;replace k4:=k4.put pw9 (by omega);replace k2:=pw9.ao;refine du 0 1 2 3 4 13 17 18 28 (Zt (Cd.ret (ab.ah (ab.af ?_))));refine jU 4 k2 Tryz.underlying71 ?_;rw[hq];exact⟨bel,_,rfl,⟨pwq.ao.put pw9 (by omega),pw.rd.below (bel.below (by omega) hle),pwq.dy,pwq.dP⟩,fun _=>False,dR.mk (es:=[]) (ts:=[]) (vs:=[]) (us:=[]) rfl rfl (by simp) (by simp) (by unfold bw;omega) hxb.1 (by have:=hxb.2;omega) (fun i e v h=>by simp at h) (fun i e v h=>by simp at h) (fun h=>absurd rfl h) (fun h=>absurd rfl h),fun b hb=>hb.elim⟩
 rw[if_neg c3] at hq;refine Cd.skip (ab.ai (aB ?_));refine Zf 1 Tryz.underlying221 ?_;refine ZL Tryz.underlying9 k3 ?_;refine Zc (Ze Tryz.func169) (hterms _) ?_;rintro e w6 ⟨rfl,hb6⟩;refine⟨_,rfl,?_⟩;replace bel:=bel.step hb6;replace k99:=k99.step hb6;replace k1:=k1.step hb6;replace k2:=k2.step hb6;replace k3:=k3.step hb6;replace k4:=k4.step hb6;refine Zm ?_;refine Zx ?_;refine Zx ?_;refine Zx ?_;refine Za ?_;refine Za ?_;refine Za ?_;refine eS 0 1 2 3 4 5 6 7 13 17 18 28 (aJ (aj ?_));refine Zm ?_;refine bq ?_;refine eN 0 1 2 3 4 5 6 7 13 17 18 28 51 (Zt ?_);refine Cd.au rfl (fun c4=> ?_) (fun c4=> ?_)
 ·rw[if_pos c4] at hq
  refine Zr ?_;refine ZL Tryz.underlying189 k1 ?_;refine Seq.cw (Ze Tryz.func165) rfl (jy K.g _) ?_;rintro e w7 ⟨rfl,hb7⟩;refine⟨_,rfl,fun a ha=>⟨ha.defers,?_⟩⟩;rw[hq];exact⟨bel.step hb7,rfl,d,pw.to hle (bel.step hb7) (k99.step hb7)⟩
 rw[if_neg c4] at hq;refine Cd.skip (aB ?_);refine ZL Tryz.underlying189 k1 ?_;refine Zv (aa.nilCheck rfl rfl) ?_;refine Zf 1 Tryz.underlying219 ?_;refine ZL Tryz.underlying3 k99 ?_;refine dt ?_;refine Zv (aa.nilCheck rfl rfl) ?_;refine Zf 1 Tryz.underlying219 ?_;refine Zq k99 ?_;intro w6 pw6;replace bel:=bel.put k99 pw6 e99;replace k1:=k1.put pw6 (by omega);replace k2:=k2.put pw6 (by omega);replace k3:=k3.put pw6 (by omega);replace k4:=k4.put pw6 (by omega);replace k99:=pw6.ao;refine eN 0 1 2 3 4 5 6 7 13 17 18 28 51 (aB ?_);refine Zm ?_;refine Zf 0 Tryz.underlying71 ?_;refine Zq k4 ?_;intro w7 pw7;replace bel:=bel.put k4 pw7 e4;replace k99:=k99.put pw7 (by omega);replace k1:=k1.put pw7 (by omega);replace k2:=k2.put pw7 (by omega);replace k3:=k3.put pw7 (by omega);replace k4:=pw7.ao;refine eN 0 1 2 3 4 5 6 7 13 17 18 28 51 (aB ?_);refine Za ?_;refine jc 0 1 2 3 4 5 6 7 8 13 17 18 28 51 (aJ (aj ?_));refine Zm ?_;refine Zm ?_;refine lB 0 1 2 3 4 5 6 7 8 13 17 18 28 51 63 64 (Zt (Cd.block ?_));have pwl:PW K w7 (p+1) d false:=⟨by rw[Int.natCast_add];exact k99,pw.rd.below (bel.below (by omega) hle),hp1,pw.dP⟩;have k1o:=k1;have k2o:=k2;have k4o:=k4;have bel0:=bel;have hs0:=bel.size;have hk4l:=k4.lt;replace bel:=Below.refl w7.heap.size w7;have own:=Own.nil w7 w7.heap.size 1 1;have bx:oL K g4 [] w7:=fun x hx=>by simp at hx
 refine Cd.loop (σ:=Nat × Value × List (Nat × Nat × Nat)) (fun s=>[(1, .pointer (some ⟨g1,0,none⟩)),(2, .pointer (some ⟨g2,0,none⟩)),(4, .pointer (some ⟨g4,0,none⟩)),(7, .int .i64 (ns:Int)),(8,s.2.1),(63, .int .i64 (ne:Int)),(64, .int .i64 (s.1:Int))])
  (fun s wr=>s.1≤ne∧Below w7.heap.size w7 wr∧s.2.2.map (·.1)=List.replicate s.1 211∧oL K g4 s.2.2 wr∧Own wr w7.heap.size 1 1 s.2.1 (s.1) (s.2.2.map rT)) (fun s=>ne-s.1) (0, .slice none 0 0,[]) ⟨Nat.zero_le _,bel,rfl,bx,own⟩ ⟨rfl,rfl,rfl,rfl,rfl,rfl,rfl,trivial⟩ ?_
 clear k1 k2 k3 k4 k99;clear bel own bx;rintro⟨i,v,L⟩ wr ⟨hi,bel,hL,bx,own⟩;dsimp only at hi hL bx own⊢;have k1:=k1o.step bel;refine aj ?_;refine ff ?_;refine cn 1 2 4 7 8 63 64 65 (aJ ?_);refine Cd.au rfl (fun hc=> ?_) (fun hc=> ?_)
 ·skip
  refine Cd.skip (aJ (Cd.block (Zr ?_)));refine Zm ?_;refine ZL Tryz.underlying189 k1 ?_;refine Zc (Ze Tryz.func170) (yH K g4 _) ?_;rintro e w8 ⟨⟨a,b,rfl,hbx⟩,hb8⟩;refine⟨_,rfl,?_⟩;replace bel:=bel.step hb8;replace own:=own.step hb8;replace bx:=bx.step hb8;replace k1:=k1.step hb8;replace bx:=bx.snoc hbx;refine Seq.slice (vs:=[_]) (s:=1) rfl rfl rfl Tryz.underlying225 (by kernel_rfl) (er) (by omega) (by omega) ⟨rfl,trivial⟩ rfl rfl rfl ?_;intro g69 w8 n69;have e69:=Nat.le_trans bel.size n69.ge;have l69:=Nat.lt_of_lt_of_le k1.lt n69.ge;replace bel:=bel.step n69.below;replace own:=own.step n69.below;replace bx:=bx.step n69.below;replace k1:=k1.step n69.below;have k69:=n69.ao;refine Seq.append rfl rfl rfl Tryz.underlying225 (by kernel_rfl) er rfl (by decide) (b:=8) (by kernel_rfl) own (Reads.ao k69 1 rfl) (by intro x hx;simp[ax,Value.cells,rT] at hx;rw[hx];rfl) bel.size (by simp only[maxLen];omega) (by omega) rfl rfl rfl ?_;intro v2 wa own2 ha;replace bx:=bx.app own ha;replace bel:=bel.trans ha.below;clear own k1 k69;refine Za ?_;refine cn 1 2 4 7 8 63 64 65 (ab.ai (dU ?_));refine dt ?_;refine Zm ?_;refine cn 1 2 4 7 8 63 64 65 ?_;refine ab.round (i+1,v2,L++[(211,a,b)]) ⟨rfl,rfl,rfl,rfl,rfl,rfl,rfl,trivial⟩ ⟨by dsimp only;omega,bel,?_,bx,?_⟩ (by dsimp only;omega)
  ·dsimp only
   rw[List.map_append,hL,List.replicate_succ'];rfl
  ·dsimp only
   rw[List.map_append];exact own2
 obtain rfl:i=ne:=by omega
 refine Cd.exit (ab.aA (ab.ay (ab.az (aJ (aj ?_)))));refine Zm ?_;refine Zm ?_;refine ed 1 2 4 7 8 63 64 65 72 73 (Zt (Cd.block ?_))
 refine Cd.loop (σ:=Nat × Value × List (Nat × Nat × Nat)) (fun s=>[(1, .pointer (some ⟨g1,0,none⟩)),(2, .pointer (some ⟨g2,0,none⟩)),(4, .pointer (some ⟨g4,0,none⟩)),(7, .int .i64 (ns:Int)),(8,s.2.1),(72, .int .i64 (ns:Int)),(73, .int .i64 (s.1:Int))])
  (fun s wr=>s.1≤ns∧Below w7.heap.size w7 wr∧s.2.2.map (·.1)=List.replicate i 211++List.replicate s.1 212∧oL K g4 s.2.2 wr∧Own wr w7.heap.size 1 1 s.2.1 (i+s.1) (s.2.2.map rT)) (fun s=>ns-s.1) (0,v,L) ⟨Nat.zero_le _,bel,by simpa using hL,bx,own⟩ ⟨rfl,rfl,rfl,rfl,rfl,rfl,rfl,trivial⟩ ?_
 clear k1;clear bel own bx;rintro⟨j,v,L⟩ wr ⟨hj,bel,hL,bx,own⟩;dsimp only at hj hL bx own⊢;have k1:=k1o.step bel;refine aj ?_;refine ff ?_;refine cn 1 2 4 7 8 72 73 74 (aJ ?_);refine Cd.au rfl (fun hc=> ?_) (fun hc=> ?_)
 ·skip
  refine Cd.skip (aJ (Cd.block (Zr ?_)));refine Zm ?_;refine ZL Tryz.underlying189 k1 ?_;refine Zc (Ze Tryz.func171) (BI K g4 _) ?_;rintro e w8 ⟨⟨a,b,rfl,hbx⟩,hb8⟩;refine⟨_,rfl,?_⟩;replace bel:=bel.step hb8;replace own:=own.step hb8;replace bx:=bx.step hb8;replace k1:=k1.step hb8;replace bx:=bx.snoc hbx;refine Seq.slice (vs:=[_]) (s:=1) rfl rfl rfl Tryz.underlying225 (by kernel_rfl) (er) (by omega) (by omega) ⟨rfl,trivial⟩ rfl rfl rfl ?_;intro g78 w8 n78;have e78:=Nat.le_trans bel.size n78.ge;have l78:=Nat.lt_of_lt_of_le k1.lt n78.ge;replace bel:=bel.step n78.below;replace own:=own.step n78.below;replace bx:=bx.step n78.below;replace k1:=k1.step n78.below;have k78:=n78.ao;refine Seq.append rfl rfl rfl Tryz.underlying225 (by kernel_rfl) er rfl (by decide) (b:=8) (by kernel_rfl) own (Reads.ao k78 1 rfl) (by intro x hx;simp[ax,Value.cells,rT] at hx;rw[hx];rfl) bel.size (by simp only[maxLen];omega) (by omega) rfl rfl rfl ?_;intro v2 wa own2 ha;replace bx:=bx.app own ha;replace bel:=bel.trans ha.below;clear own k1 k78;refine Za ?_;refine cn 1 2 4 7 8 72 73 74 (ab.ai (dU ?_));refine dt ?_;refine Zm ?_;refine cn 1 2 4 7 8 72 73 74 ?_;refine ab.round (j+1,v2,L++[(212,a,b)]) ⟨rfl,rfl,rfl,rfl,rfl,rfl,rfl,trivial⟩ ⟨by dsimp only;omega,bel,?_,bx,?_⟩ (by dsimp only;omega)
  ·dsimp only
   rw[List.map_append,hL,List.replicate_succ',List.append_assoc];rfl
  ·dsimp only
   rw[List.map_append];exact own2
 obtain rfl:j=ns:=by omega
 refine Cd.exit (ab.aA (ab.ay (ab.az (aB ?_))));refine ZL Tryz.underlying189 k1 ?_;refine Zm ?_;have hsr:=bel.size;have pw9:=pwl.step hle bel;have k4:=k4o.step bel;have k2:=k2o.step bel;have hgg4:K.g<g4:=by omega
 obtain⟨AP,cP,rfl,-⟩:=own.reads;obtain⟨R,hR⟩:∃R,R=cR K.ws (jW E0 T0 i j) (p+1) d:=⟨_,rfl⟩;rw[←hR] at hq;have hneR:R≠ .out:=Rs.fC (by rw[←hq];exact hne);obtain⟨h1i,h2j,hop64⟩:=hbd
 have hLl:L.length=i+j:=by
  have:=congrArg List.length hL
  simpa using this
 have hol:(jW E0 T0 i j).length=i+j:=by unfold jW;simp
 have hexl:∀xs:List Part,(fh xs).length≤xs.length∧(dZ xs).length≤xs.length:=fun xs=>⟨List.length_filterMap_le _ _,List.length_filterMap_le _ _⟩;have hfl:(L.map fun x=>(x.1,[Value.pointer (some ⟨x.2.1,0,none⟩),Value.pointer (some ⟨x.2.2,0,none⟩)])).length=i+j:=by rw[List.length_map,hLl]
 have hget:∀ {q f:Nat} {cp:List Value},(L.map fun x=>(x.1,[Value.pointer (some ⟨x.2.1,0,none⟩),Value.pointer (some ⟨x.2.2,0,none⟩)]))[q]? =some (f,cp)→∃x,L[q]? =some x∧x∈L∧f=x.1∧cp=[Value.pointer (some ⟨x.2.1,0,none⟩),Value.pointer (some ⟨x.2.2,0,none⟩)]:=fun {q f cp} h=>by
  rw[List.getElem?_map] at h
  cases hx:L[q]? with
  |none=>rw[hx] at h;cases h
  |some x=>
   rw[hx] at h;injection h with h
   injection h with e1 e2
   exact⟨x,rfl,List.mem_of_getElem? hx,e1.symm,e2.symm⟩
 have hfid:∀ {q:Nat} {x:Nat × Nat × Nat},L[q]? =some x→(q<i∧x.1=211)∨(i≤q∧x.1=212):=fun {q x} hx=>by
  have h1:(L.map (·.1))[q]? =some x.1:=by rw[List.getElem?_map,hx];rfl
  rw[hL] at h1;rcases Nat.lt_or_ge q i with hqi|hqi
  ·rw[List.getElem?_append_left (by simpa using hqi),List.getElem?_replicate,if_pos hqi] at h1
   injection h1 with h1
   exact .inl ⟨hqi,h1.symm⟩
  ·rw[List.getElem?_append_right (by simpa using hqi),List.length_replicate] at h1
   have hlt:=(List.getElem?_eq_some_iff.1 h1).1;rw[List.length_replicate] at hlt;rw[List.getElem?_replicate,if_pos hlt] at h1;injection h1 with h1
   exact .inr ⟨hqi,h1.symm⟩
 have hone:∀ {q:Nat} {one:Nat→Nat→Rs Part},(jW E0 T0 i j)[q]? =some one→(q<i→one=fun p d=>(E0 p d).map .inl)∧(i≤q→one=fun p d=>(T0 p d).map .inr):=fun {q one} h=>by
  unfold jW at h;refine⟨fun hqi=> ?_,fun hqi=> ?_⟩
  ·rw[List.getElem?_append_left (by simpa using hqi),List.getElem?_replicate,if_pos hqi] at h
   injection h with h
   exact h.symm
  ·rw[List.getElem?_append_right (by simpa using hqi),List.length_replicate] at h
   have hlt:=(List.getElem?_eq_some_iff.1 h).1;rw[List.length_replicate] at hlt;rw[List.getElem?_replicate,if_pos hlt] at h;injection h with h
   exact h.symm
 have hwi:=jR K hK g4 (jW E0 T0 i j) (L.map fun x=>(x.1,[Value.pointer (some ⟨x.2.1,0,none⟩),Value.pointer (some ⟨x.2.2,0,none⟩)])) AP cP
  (fun xs W=>Kp wr W∧∃evs tvs vE vT S,aH W g4 71 #[.int .i64 op, .string (strOf []),vE,vT]∧ey W g4 g4 (fh xs) (dZ xs) evs tvs vE vT S) (p+1) d wr pw9 (Nat.le_of_lt k4.lt) (by rw[hfl,hol]) (by rw[hol];omega)
  ⟨Kp.refl wr,[],[],_,_,_,k4,ey.nil wr g4 g4⟩
  (fun xs W W' p d hM hp hf=>by
   obtain⟨kp,evs,tvs,vE,vT,S,kt,aq⟩:=hM;exact⟨kp.fz hp.ao hf,evs,tvs,vE,vT,S,kt.fz hf (by omega),aq.fz hf hgg4⟩)
  (fun xs W q f cp hM hj=>by
   obtain⟨kp,-⟩:=hM;obtain⟨x,hx,hxm,rfl,rfl⟩:=hget hj;obtain⟨A',c',hv,hr⟩:=(kp.own own).reads;injection hv with hv _ _
   subst hv;have hql:=(List.getElem?_eq_some_iff.1 hx).1;obtain⟨ad,hA,-,hc⟩:=hr.2 (by omega);exact⟨ad,hA,hc q _ (by rw[List.getElem?_map,hx];rfl)⟩)
  (fun q f cp hj=>by
   obtain⟨x,hx,hxm,rfl,rfl⟩:=hget hj;rcases hfid hx with ⟨-,e⟩|⟨-,e⟩
   ·rw[e];exact Dp
   ·rw[e];exact Em)
  (fun q f cp one hj ho xs W p' hxl hpw hW hM hne1=>by
   obtain⟨x,hx,hxm,rfl,rfl⟩:=hget hj;have hql:=(List.getElem?_eq_some_iff.1 hx).1;obtain⟨o1,o2⟩:=hone ho;obtain⟨kp,evs,tvs,vE,vT,S,kt,aq⟩:=hM;obtain⟨bx1,bx2⟩:=bx x hxm;obtain⟨l1,l2⟩:=hexl xs;rcases hfid hx with ⟨hqi,e⟩|⟨hqi,e⟩
   ·have ho1:=o1 hqi
    subst ho1;have hne2:E0 p' (d+1)≠ .out:=Rs.fC hne1;rw[e]
    exact(zO K hK g4 g4 x.2.1 x.2.2 (d+1) p' op [] (fh xs) (dZ xs) evs tvs vE vT S E0 W hpw hgg4 (Nat.le_refl _) hW kt (kp.ao bx1) (kp.ao bx2) aq (by omega) (fun W' h1 _=>hE p' (d+1) W' h1 hne2) hne2).mono fun e W' hq=>hq.map fun a v W' h=>⟨kp.trans h.1,by
     have e1:fh (xs++[.inl a])=fh xs++[a]:=by unfold fh;rw[List.filterMap_append];rfl
     have e2:dZ (xs++[.inl a])=dZ xs:=by unfold dZ;rw[List.filterMap_append];simp
     rw[e1,e2];exact h.2⟩
   ·have ho2:=o2 hqi
    subst ho2;have hne2:T0 p' (d+1)≠ .out:=Rs.fC hne1;rw[e]
    exact(BQ K hK g4 g4 x.2.1 x.2.2 (d+1) p' op [] (fh xs) (dZ xs) evs tvs vE vT S T0 W hpw hgg4 (Nat.le_refl _) hW kt (kp.ao bx1) (kp.ao bx2) aq (by omega) (fun W' h1 _=>hT p' (d+1) W' h1 hne2) hne2).mono fun e W' hq=>hq.map fun a v W' h=>⟨kp.trans h.1,by
     have e1:fh (xs++[.inr a])=fh xs:=by unfold fh;rw[List.filterMap_append];simp
     have e2:dZ (xs++[.inr a])=dZ xs++[a]:=by unfold dZ;rw[List.filterMap_append];rfl
     rw[e1,e2];exact h.2⟩)
  (by rw[←hR];exact hneR)
 rw[←hR,hfl] at hwi;rcases Rs.de hneR with ⟨q,ov,hr⟩|⟨xs,q,hr⟩
 ·rw[hr] at hwi hq
  refine Seq.cw (Ze Tryz.func166) rfl hwi ?_;rintro e w9 ⟨hf,rfl,d6,hp6⟩;refine⟨_,rfl,fun a ha=>⟨ha.defers,?_⟩⟩;rw[hq];exact⟨(bel0.step bel).trans (hf.less (by omega)),rfl,d6,hp6⟩
 have hxl:=iL (hR.symm.trans hr);rw[hol] at hxl;obtain⟨l1,l2⟩:=hexl xs;rw[hr] at hwi hq;replace hq:iP K.ws E0 T0 p d= .ok (.mk op [] (fh xs) (dZ xs)) q:=hq;refine Zc (Ze Tryz.func166) (hwi) ?_;rintro e wq ⟨hf,v6,rfl,pwq,kpq,evs,tvs,vE,vT,S,k4q,aqq⟩;refine⟨_,rfl,?_⟩
 have k2q:aH wq g2 71 #[.int .i64 0, .string {data:= #[]}, .slice none 0 0, .slice none 0 0]:=by
  have h2:aH wr g2 71 #[.int .i64 0, .string {data:= #[]}, .slice none 0 0, .slice none 0 0]:=k2;have h1:=hf.block g2 (by omega) (by omega);unfold aH at h2⊢;rw[h1];exact h2
 have belq:Fz w.heap.size K.g w wq:=(bel0.step bel).trans (hf.less (by omega));have hrep:=aqq.tm op [] hop64 (by simp) (by simp) (by omega) (by omega);have hbn:=aqq.bounds;obtain⟨AE,cE,hvE,-⟩:=aqq.gY.reads;obtain⟨AT,cT,hvT,-⟩:=aqq.dC.reads;subst hvE hvT;clear bel k1 k2 k4;have bel:=belq;have k2:=k2q;have k4:=k4q;have hlt2:=k2.lt;refine cn 1 2 4 7 8 72 73 74 (aB ?_);refine ZW 4 Tryz.underlying71 k4 ?_;refine Zo 4 k2 ?_;intro w8 pw8;replace bel:=bel.put k2 pw8 e2;replace k4:=k4.put pw8 (by omega);replace k2:=pw8.ao;refine cn 1 2 4 7 8 72 73 74 (Zt (Cd.ret ?_));refine jU 4 k2 Tryz.underlying71 ?_;rw[hq];have hsz:=pw8.size;refine⟨bel,_,rfl,⟨pwq.ao.put pw8 (by omega),pw.rd.below (bel.below (by omega) hle),pwq.dy,pwq.dP⟩,_,hrep.mono (fun _ h=>h) (fun a ha=>World.cell?_of_block (pw8.grown.block _ (hbn _ ha).2.1 (fun e=>by injection e with e;have:=(hbn _ ha).1;omega))),fun b hb=> ?_⟩;obtain⟨h1,h2,-⟩:=hbn b hb;exact⟨by omega,by omega⟩
theorem ur (K:Ctx)(hK:K.Ok):∀n,E2 K (nN K.ws n)
 |0=>fun p d W _ h=>absurd rfl h
 |n+1=>fun p d W hp hne=>BL K hK ((bM K.ws (n+1)).E 0) (nN K.ws n) (fun p d W hp hne=>(xL K hK (n+1) (n+1) (Nat.le_refl _)).2 0 (by omega) p d W hp hne) (ur K hK n) p d W hp hne
theorem wY (g:Nat)(w:World):CallsD Tryz.prog 207 #[.pointer (some ⟨g,0,none⟩)] .returning w fun e u' w'=>e= .returned (.tuple #[])∧u'= .returning∧w'=w:=by
 refine callsD_of_wpS Tryz.func207 rfl fun c₀ cs hu=> ?_;apply wpS_seq;apply wpS_region;simp[wpOpsS,go_sem,recoverD,hu,Tryz.ntmps207,Exit.thenS];apply wpS_seq;apply wpS_region;simp[wpOpsS,go_sem,recoverD,hu,Exit.thenS,Tryz.underlying20];refine wpS_cond (t:=false) (by simp[Act.eval,Array.replicate]) ?_;simp only[Bool.false_eq_true,if_false];refine wpS_of_wp (wp_skip ?_)
 cases c₀
 simp_all [bodyPostS,results,Tryz.results207]
theorem oQ:bz Tryz.prog 261=some (some (.agg #[])):=by kernel_rfl
theorem aa.typeAssert {P:Program}{E:Operand→Option Value}{o:Oper}{w:World}{x:Operand}{T T':TypeId}{b:Bool}{v u:Value}(ho:o.op= .typeAssert x T T' b)(hx:E x=some v)(hr:(Instr.typeAssert v T T' b).run P w= .ok u w):aa P E o w u w:=fun ρ h=>by
 unfold execOp;simp only[ho];rw[h _ _ hx];simp only[Sem.run_bind,hr,Result.andThen_ok];rfl
theorem Cd.at_ {P:Program}{c:Code}{Q:Exit→Act→World→Prop}{n:Nat}{F:List (Nat × Value)}{w:World}{a:Act}(h:Cd P c Q n F w)(ha:Fr n F a):c.wp P Q a w:=h a ha
theorem wU (g:Nat)(b:Bool)(w:World)(hb:aH w g 4 #[.bool b]):CallsD Tryz.prog 207 #[.pointer (some ⟨g,0,none⟩)] (.panicking nf) w fun e u' w'=>
  e= .returned (.tuple #[])∧u'= .panicking [{v:= .iface 261 (.agg #[]),recovered:=true}]∧aH w' g 4 #[.bool false]∧w.grownBy w' (some g):=by
 refine callsD_of_wpS Tryz.func207 rfl fun c₀ cs hu=> ?_;unfold nf at hu;apply wpS_seq;apply wpS_region;simp[wpOpsS,go_sem,recoverD,hu,Tryz.ntmps207,Exit.thenS];apply wpS_seq;apply wpS_region;simp[wpOpsS,go_sem,recoverD,hu,Exit.thenS,Tryz.underlying20];refine wpS_cond (t:=true) (by simp[Act.eval,Array.replicate]) ?_;simp only[if_true];refine wpS_of_wp ?_;refine Cd.at_ (n:=15) (F:=[(0, .pointer (some ⟨g,0,none⟩)),(1, .iface 261 (.agg #[]))]) ?_ ⟨by simp,rfl,fun t v ht=> ?_⟩
 ·refine Cd.seq ?_
  refine aj ?_;refine Zm ?_;refine Zv (aa.typeAssert (u:= .tuple #[.agg #[], .bool true]) rfl rfl (by kernel_rfl)) ?_;refine Zm ?_;refine Zx ?_;refine Zx ?_;refine Zl oQ ?_;intro g2 w1 n2;have hb1:=hb.step n2.below;refine Seq.jQ (m:=0) rfl rfl rfl rfl (by kernel_rfl) rfl trivial n2.ao (by simp[Value.cells]) rfl rfl ?_;intro w2 p2;have hne:g≠g2:=by have:=hb.lt;have:=n2.ge;omega
  have hb2:=hb1.put p2 hne;refine Za ?_;refine Seq.nil (aB ?_);refine Zm ?_;refine iC ?_;refine Seq.nil (Zt ?_);refine Cd.aS rfl rfl ?_;refine Cd.skip (dU ?_);refine Zq hb2 ?_;intro w3 p3;refine Seq.nil ?_;intro a ha
  have hgr:w.grownBy w3 (some g):=by
   have h1:w.grownBy w1 (some g):=⟨n2.below.os,n2.below.tape,n2.below.output,n2.below.size,fun k hk _=>n2.below.block k hk⟩;have h2:w1.heap.size=w2.heap.size:=p2.size.symm;refine⟨p3.grown.os.trans (p2.grown.os.trans h1.os),p3.grown.tape.trans (p2.grown.tape.trans h1.tape),p3.grown.output.trans (p2.grown.output.trans h1.output),by have:=h1.size;have:=p2.size;have:=p3.size;omega,fun k hk hne2=> ?_⟩;have hge:=n2.ge;have hs1:=h1.size;rw[p3.grown.block k (by omega) hne2,p2.grown.block k (by omega) (fun e=>by injection e with e;omega)];exact h1.block k hk hne2
  refine⟨ha.defers,_,?_, .tuple #[],?_,rfl,rfl,p3.ao,hgr⟩
  ·cases c₀
   simp_all
  ·exact results_none rfl _ _ _
 rcases cd ht with ⟨rfl,rfl⟩|⟨-,ht⟩
 ·simp
 rcases cd ht with ⟨rfl,rfl⟩|⟨-,ht⟩
 ·simp
 cases ht
def mv (g:FuncId)(cap:List Value):Deferred:= {target:= .fn (.func g) cap.toArray,args:= #[]}
theorem Seq.Er {P:Program}{ops:Array Oper}{Q:Exit→Act→World→Prop}{rest:List Oper}{o:Oper}{n t:Nat}{F:List (Nat × Value)}{w:World}{g:FuncId}{cap:List Value}{ts:Array TypeId}(ho:o.op= .defer {callee:= .value (.tmp t),args:= #[],argTypes:=ts}) (hx:eO F (.tmp t)=some (.func (.func g) #[] cap.toArray)) (hg:o.guard=none) (hd:o.dst=none)
  (h:∀I:Inhabited (List Deferred),I.default=[mv g cap]→ @Seq I P ops Q rest n F w):Seq P ops Q (o::rest) n F w:=by
 intro a ha;refine wpList_plain hg fun K hK=> ?_
 have hr:(execOp a.eval o).run P w= .ok (.defer (mv g cap)) w:=by
  unfold execOp;have hf:a.eval (.tmp t)= .func (.func g) #[] cap.toArray:=ha.ev _ _ hx;simp only[ho,resolve,hf,Deferred.ofValue,Sem.run_bind,Sem.run_pure,Result.andThen_ok];simp[mv]
 unfold Oper.wp;rw[hr,Oper.upon_defer,hd];have hD:mv g cap::a.defers=[mv g cap]:=by rw[ha.defers];rfl
 exact hK _ _ (h ⟨[mv g cap]⟩ rfl _ (@Fr.mk ⟨[mv g cap]⟩ n F _ ha.size hD ha.slot))
theorem mW {P:Program}{fn:Func}{p g:Nat}{ty t:TypeId}{b:Bool}{w:World}(h:fn.results= #[.cell p ty]) (tmps:Array Value) (hp:tmps[p]? =some (.pointer (some ⟨g,0,none⟩))) (hu:P.underlying ty=some .bool) (hb:aH w g t #[.bool b]):(results fn tmps).run P w= .ok (.bool b) w:=by
 have hagg:(isAgg ty).run P w= .ok false w:=by
  unfold isAgg;rw[Sem.run_bind,run_underlying hu w];rfl
 have hc:w.cell? ⟨g,0,none⟩=some (.bool b):=by rw[hb.cell 0];rfl
 simp[results,h,hp,asAddr,loadVar,Sem.run_bind,hagg,go_sem,hc]
def FE {α:Type}(K:Ctx)(h:Nat)(w:World)(r:Rs α)(okv:α→World→Prop)(e:Ending)(w':World):Prop:=
 Fz h K.g w w'∧Kp w w'∧match r with
 | .out=>False
 | .bad p ov=>e= .returned (.bool false)∧∃d,PW K w' p d ov
 | .ok a p=>e= .returned (.bool (decide (p=K.ws.length)))∧(∃d,PW K w' p d false)∧okv a w'
def EB {α:Type}(K:Ctx)(h:Nat)(W:World)(r:Rs α)(okv:α→World→Prop)(e:Ending)(W':World):Prop:=match r with
 | .out=>False
 | .bad p ov=>Fz W.heap.size K.g W W'∧e= .panicked nf∧∃d,PW K W' p d ov
 | .ok a p=>Fz h K.g W W'∧Kp W W'∧(∃v,e= .returned v)∧PW K W' p 0 false∧okv a W'
theorem BA {α:Type}(K:Ctx)(hK:K.Ok)(f:Nat)(cp:List Value)(h:Nat)(r:Rs α)(okv:World→α→World→Prop)(ok2:α→World→Prop)(w:World)(pw:PW K w 0 0 false)(hh:h≤w.heap.size)(hne:r≠ .out)(eg:∀args w,(callFunc f args).run Tryz.prog w= .ok (.enter f args) w)
  (hok:∀a W0 W W' g,okv W0 a W→w.heap.size≤g→g<W0.heap.size→W0.heap.size≤W.heap.size→W.heap.size≤W'.heap.size→(∀k,k<W.heap.size→k≠g→W'.heap[k]? =W.heap[k]?)→ok2 a W')
  (hc:∀W,Below w.heap.size w W→PW K W 0 0 false→Calls Tryz.prog f cp.toArray W (EB K h W r (okv W))):
  Calls Tryz.prog 162 #[.pointer (some ⟨K.g,0,none⟩), .func (.func f) #[] cp.toArray] w (FE K h w r ok2):=by
 have bel:=Below.refl w.heap.size w;have hle:=hK.le;have hlt:=pw.ao.lt;have hen:∀args w,(callFunc 207 args).run Tryz.prog w= .ok (.enter 207 args) w:=fun args w=>aO Tryz.func207 (by kernel_rfl) rfl args w;refine Calls.zU 18 Tryz.func162 rfl rfl rfl ?_;refine aj ?_;refine Zl nj ?_;intro g4 w1 n4;have e4:=Nat.le_trans bel.size n4.ge;replace bel:=bel.step n4.below;have k4:=n4.ao;refine bu 0 1 4 (aB ?_);refine Zv (aa.makeFunc (v:= .func (.func 207) #[] #[.pointer (some ⟨g4,0,none⟩)]) rfl (show gR _ _=some [] from rfl) (show gR _ _=some [.pointer (some ⟨g4,0,none⟩)] from rfl) rfl) ?_;refine Seq.Er (cap:=[.pointer (some ⟨g4,0,none⟩)]) rfl rfl rfl rfl ?_;intro I hI;have hcl:=hc _ bel (pw.step hle bel);have hltc:=k4.lt;have kp:Kp w w1:=(Kp.refl w).step bel;have hs1:=bel.size;refine bu 0 1 4 (aB ?_);refine Zm ?_;rcases Rs.de hne with ⟨q,ov,hr⟩|⟨x,q,hr⟩
 ·rw[hr] at hcl⊢
  refine Seq.cw (Enters.value (first:=[]) (cap:=cp) rfl rfl rfl eg) rfl hcl ?_;rintro e w6 ⟨hf,rfl,d6,hp6⟩;refine⟨_,rfl,fun a ha=> ?_⟩;have k46:=k4.fz hf (by omega);show Leaves Tryz.prog _ a.tmps _ a.defers (.panicking nf) w6;rw[ha.defers,hI];refine leaves_cons (by simp) (f:=207) (args:= #[.pointer (some ⟨g4,0,none⟩)]) (by simp[invoke,hen]) ((wU g4 false w6 k46).mono fun e u' w' ⟨h1,h2,h3,h4⟩=> ?_);subst h1 h2;have hfw:Fz h K.g w w6:=(Fz.of (bel.mono hh)).trans (hf.less (by omega))
  have hg4:Fz h K.g w6 w':=⟨h4.os,h4.tape,h4.output,h4.size,fun k hk _=>by
   have:=hf.size;exact h4.block k (by omega) (fun e=>by injection e with e;omega)⟩
  have kp6:Kp w w6:=kp.fz (pw.step hle bel).ao hf;refine⟨_,mW rfl a.tmps (ha.slot 4 _ rfl) Tryz.underlying4 h3,hfw.trans hg4,⟨Nat.le_trans kp6.size h4.size,fun k t cs hb h1 h2 h3'=>(kp6.bN k t cs hb h1 h2 h3').grown h4 (fun e=>by injection e with e;have:=hb.lt;omega)⟩,rfl,d6,hp6.ao.grown h4 (fun e=>by injection e with e;omega),hp6.rd.below ⟨h4.os,h4.tape,h4.output,h4.size,fun k hk=>h4.block k (by have:=hp6.ao.lt;omega) (fun e=>by injection e with e;omega)⟩,hp6.dy,hp6.dP⟩
 rw[hr] at hcl⊢;refine Seq.call (Enters.value (first:=[]) (cap:=cp) rfl rfl rfl eg) rfl rfl rfl hcl ?_;rintro e wq ⟨hf,kpq,⟨v,rfl⟩,pwq,hov⟩;refine⟨_,rfl,?_⟩;have hbel1:=bel;clear bel;have hfw:Fz h K.g w wq:=(Fz.of (hbel1.mono hh)).trans hf;have kp6:=kp.trans kpq;have k46:=kpq.ao k4;have hg4:g4≠K.g:=by omega
 clear k4;have k4:=k46;have k99:=pwq.ao;have bel:=Below.refl wq.heap.size wq;have loc:=Fz.refl wq.heap.size g4 wq;have e4':g4=g4:=rfl;refine bu 0 1 4 (aJ ?_);refine fV 10 ?_;intro w2 hw2 zw2;replace bel:=bel.step hw2;replace k99:=k99.step hw2;replace k4:=k4.step hw2;have zbel:=bel.size;have zlt:=k4.lt;refine eJ ?_;refine Zd (fun w hG=>aa.nilCheck rfl rfl) ?_;refine fp 1 Tryz.underlying219 ?_;refine eH Tryz.underlying3 k99 ?_;refine eJ ?_;refine Zd (fun w hG=>aa.nilCheck rfl rfl) ?_;refine fp 0 Tryz.underlying219 ?_;refine eH Tryz.underlying215 k99 ?_;refine Zd (fun w hG=>aa.len rfl rfl Tryz.underlying215) ?_;refine Zd (fun w hG=>aa.fm rfl rfl rfl) ?_;refine Dr.nil ?_;refine br.done (F':=[(0,_),(1,_),(4,_),(17,_)]) rfl ⟨rfl,rfl,rfl,rfl,trivial⟩ ?_;intro w3 hw3 fw3;replace bel:=bel.step hw3;replace k99:=k99.step hw3;replace k4:=k4.step hw3;have hbw:=bel;have hsw:=bel.size;have hlt4:=k4.lt;have k4q:=k46;refine Zq k4 ?_;intro w4 pw4;replace k99:=k99.put pw4 (by omega);replace k4:=pw4.ao;refine bu 0 1 4 (Zt (Cd.ret ?_));intro a ha;show Leaves Tryz.prog _ a.tmps _ a.defers .returning _;rw[ha.defers,hI];refine leaves_cons (by simp) (f:=207) (args:= #[.pointer (some ⟨g4,0,none⟩)]) (by simp[invoke,hen]) ((wY g4 _).mono fun e u' w' ⟨h1,h2,h3⟩=> ?_);subst h1 h2 h3;have hgr:=pw4.grown;have hsz:=pw4.size;have hblk:∀k,k<wq.heap.size→k≠g4→w'.heap[k]? =wq.heap[k]? :=fun k hk hne=>(hgr.block k (by omega) (fun e=>hne (by injection e))).trans (hbw.block k hk);have hfe:Fz h K.g wq w':=⟨hgr.os.trans hbw.os,hgr.tape.trans hbw.tape,hgr.output.trans hbw.output,by omega,fun k hk _=>hblk k (by have:=hfw.size;omega) (by omega)⟩;have hdd:(decide ((q:Int)=(K.ws.length:Int)))=decide (q=K.ws.length):=by rw[decide_eq_decide];omega
 refine⟨_,mW rfl a.tmps (ha.slot 4 _ rfl) Tryz.underlying4 k4,hfw.trans hfe,⟨Nat.le_trans kp6.size (by omega),fun k t cs hb h1 h2 h3'=> ?_⟩,?_,⟨0,k99,pwq.rd.below (B:=K.B) ⟨hfe.os,hfe.tape,hfe.output,hfe.size,fun k hk=>hblk k (by omega) (by omega)⟩,pwq.dy,pwq.dP⟩,hok x _ wq _ g4 hov (by omega) hltc kpq.size (by omega) hblk⟩
 ·have hb2:=kp6.bN k t cs hb h1 h2 h3'
  have:=hb.lt;have h9:=hblk k hb2.lt (by omega);unfold aH at hb2⊢;rw[h9];exact hb2
 ·show Ending.returned (.bool (decide ((q:Int)=(K.ws.length:Int))))=_
  rw[hdd]
section
variable {P:Program} {E:Operand→Option Value} {o:Oper} {w:World} {x:Operand} {T:TypeId}
end
theorem wm (c:Nat)(r:List Nat):kM (c::r)=if ir c then(if nT (c::r) then some (2,(c::r).take 10,iG ((c::r).take 10)) else(sS ((c::r).take (runN bn (c::r)))).map fun v=>(1,(c::r).take (runN bn (c::r)),v))
  else if ml c then(if runN bn (c::r)≤16 then some (3,(c::r).take (runN bn (c::r)),0) else none)
  else(pW (c::r)).map fun s=>(0,s,0):=rfl
def Fg (x:Wd):Prop:=(x.kind=0∧x.text∈fM∧x.n=0)∨(x.kind=1∧0≤x.n∧x.n≤9223372036854775807)∨(x.kind=2∧0≤x.n∧x.n≤2932896)∨(x.kind=3∧cI x.text=true∧x.n=0)
theorem yu (p:Nat→Bool)(t:List Nat)(ht:∀x∈t,p x=true):runN p t=t.length:=by
 induction t with
 |nil=>rfl
 |cons x t ih=>rw[gf,if_pos (ht x (by simp)),ih (fun y hy=>ht y (by simp[hy]))];rfl
theorem D6 {y m d:Int}(h:kT y m d=true):0≤iT y m d∧iT y m d≤2932896:=by
 unfold kT at h;simp only[Bool.and_eq_true,decide_eq_true_eq] at h;obtain⟨⟨⟨h1,h2⟩,h3⟩,h4⟩:=h;obtain⟨h5,h6,h7⟩:=oV (y:=y) (m:=m) (by omega);unfold iT rR ofM
 by_cases hm:m<3
 ·rw[if_pos hm,if_pos hm];omega
 ·rw[if_neg hm,if_neg hm];omega
theorem BV (l:List Nat):0≤iG l∧iG l≤2932896:=by
 unfold iG;split
 ·rename_i h
  unfold jh at h;simp only[Bool.and_eq_true] at h;exact D6 h.2
 ·omega
theorem Aq {l:List Nat}{k:Int}{t:List Nat}{n:Int}{pos:Nat}(h:kM l=some (k,t,n)):Fg ⟨k,t,n,pos⟩:=by
 obtain⟨h1,h2,h3⟩:=jL h
 cases l with
 |nil=>cases h
 |cons c l=>
  rw[wm] at h
  by_cases hd:ir c=true
  ·rw[if_pos hd] at h
   by_cases hday:nT (c::l)=true
   ·rw[if_pos hday] at h
    injection h with h
    injection h with e1 h
    injection h with e2 e3
    have:=BV ((c::l).take 10);exact .inr (.inr (.inl ⟨e1.symm,by simp only;omega,by simp only;omega⟩))
   ·rw[if_neg hday] at h
    cases ha:sS ((c::l).take (runN bn (c::l))) with
    |none=>rw[ha] at h;cases h
    |some v=>
     rw[ha] at h;injection h with h
     injection h with e1 h
     injection h with e2 e3
     unfold sS at ha;split at ha
     ·rename_i h6
      injection ha with ha
      exact .inr (.inl ⟨e1.symm,by simp only;omega,by simp only;omega⟩)
     ·cases ha
  ·rw[if_neg hd] at h
   by_cases hle:ml c=true
   ·rw[if_pos hle] at h
    by_cases yL:runN bn (c::l)≤16
    ·rw[if_pos yL] at h
     injection h with h
     injection h with e1 h
     injection h with e2 e3
     have hall:∀x∈t,bn x=true:=by rw[←e2];exact pO bn _
     have htl:t.length≤16:=by rw[←e2,List.length_take];omega
     have ht0:t.getD 0 0=c:=by
      cases t with
      |nil=>simp at h1
      |cons d q=>
       rw[List.length_cons,List.take_succ_cons] at h2;injection h2 with h2 _
     refine .inr (.inr (.inr ⟨e1.symm,?_,e3.symm⟩));show cI t=true;unfold cI;rw[yu bn t hall,ht0,hle];have hne:t≠ []:=fun e=>by rw[e] at h1;simp at h1
     simp[htl,hne]
    ·rw[if_neg yL] at h;cases h
   ·rw[if_neg hle] at h
    cases hs:pW (c::l) with
    |none=>rw[hs] at h;cases h
    |some s=>
     rw[hs] at h;injection h with h
     injection h with e1 h
     injection h with e2 e3
     subst e2;exact .inl ⟨e1.symm,List.mem_of_find?_eq_some hs,e3.symm⟩
theorem xT (l:List Nat)(hl:∀x∈l,x<256):∀f p,∀x∈(iu f l p).1,Fg x∧(∀c∈x.text,c<256)∧x.text.length≤l.length∧x.pos<l.length
 |0,p,x,h=>by simp[iu] at h
 |f+1,p,x,h=>by
  rcases Nat.lt_or_ge p l.length with hlt|hge
  ·rw[lp f l p hlt] at h
   cases hn:kM (l.drop p) with
   |none=>rw[hn] at h;simp at h
   |some z=>
    obtain⟨k,t,n⟩:=z;rw[hn] at h;rcases List.mem_cons.1 h with rfl|h
    ·obtain⟨s1,s2,s3⟩:=jL hn
     refine⟨Aq hn,fun c hc=> ?_,by rw[List.length_drop] at s3;dsimp only;omega,hlt⟩;dsimp only at hc;rw[s2] at hc;exact hl c (List.mem_of_mem_drop (List.mem_of_mem_take hc))
    ·exact xT l hl f _ x h
  ·rw[m0 _ _ _ hge] at h;simp at h
theorem uF (l:List Nat):∀(f p:Nat),p≤l.length→(iu f l p).1.length+p≤l.length
 |0,p,h=>by unfold iu;simpa using h
 |f+1,p,h=>by
  rcases Nat.lt_or_ge p l.length with h2|h2
  ·rw[lp f l p h2]
   cases hn:kM (l.drop p) with
   |none=>simpa using h
   |some x=>
    obtain⟨k,t,n⟩:=x;obtain⟨s1,-,s3⟩:=jL hn;rw[List.length_drop] at s3;have hb:=kY (l.drop (p+t.length));rw[List.length_drop] at hb;have:=uF l f (p+t.length+cH (l.drop (p+t.length))) (by omega);simp;omega
  ·rw[m0 _ l p h2];simpa using h
theorem vX (l:List Nat):(bb l).1.length≤l.length:=by
 have:=uF l (l.length+1) (cH l) (kY l);unfold bb;omega
theorem Fg.i64 {x:Wd}(h:Fg x):bw x.kind∧bw x.n:=by
 unfold bw;rcases h with ⟨h1,-,h2⟩|⟨h1,h2,h3⟩|⟨h1,h2,h3⟩|⟨h1,-,h2⟩<;>omega
theorem D5 (l:List Nat)(hl:∀x∈l,x<256)(h4:l.length≤4000){B g c:Nat}{A:Option Addr}(hle:B≤g):(Ctx.mk B g c l.length A (bb l).1).Ok:=
 ⟨hle,by have:=vX l;show(bb l).1.length≤4000;omega,h4,fun x hx=>by
  obtain⟨h1,h2,h3,h4'⟩:=xT l hl _ _ x hx;exact⟨h1.i64.1,h1.i64.2,h2,by omega,by omega⟩⟩
theorem uu {α:Type}(K:Ctx)(h:Nat)(f:Nat)(cp:List Value)(b3 b9:Nat)(r:Rs α)(okv:α→World→Prop)(W:World)(eg:∀args w,(callFunc f args).run Tryz.prog w= .ok (.enter f args) w)
  (k3:aH W b3 190 #[.func (.func f) #[] cp.toArray]) (k9:aH W b9 189 #[.pointer (some ⟨K.g,0,none⟩)]) (hne:r≠ .out)
  (hc:Calls Tryz.prog f ([]++[Value.pointer (some ⟨K.g,0,none⟩)]++cp).toArray W (EB K h W r okv)):
  Calls Tryz.prog 163 #[.pointer (some ⟨b3,0,none⟩), .pointer (some ⟨b9,0,none⟩)] W (EB K h W r okv):=by
 have bel:=Below.refl W.heap.size W;have k98:=k3;have k99:=k9;refine Zs 5 Tryz.func163 ?_;refine Zr ?_;refine ZL Tryz.underlying190 k98 ?_;refine ZL Tryz.underlying189 k99 ?_;rcases Rs.de hne with ⟨q,ov,hr⟩|⟨x,q,hr⟩
 ·rw[hr] at hc⊢
  refine Seq.cw (Enters.value (first:=[]) (cap:=cp) rfl rfl rfl eg) rfl hc ?_;rintro e w6 ⟨hf,rfl,d6,hp6⟩;refine⟨_,rfl,fun a ha=>⟨ha.defers,?_⟩⟩;exact⟨hf,rfl,d6,hp6⟩
 rw[hr] at hc⊢;refine Seq.call (Enters.value (first:=[]) (cap:=cp) rfl rfl rfl eg) rfl rfl rfl hc ?_;rintro e wq ⟨hf,kpq,⟨v,rfl⟩,pwq,hov⟩;refine⟨_,rfl,?_⟩;refine dM 0 1 ?_;refine ab.eP rfl (.inr rfl) ?_;exact⟨hf,kpq,⟨_,rfl⟩,pwq,hov⟩
def endPos (l:List Nat)(p:Nat):Nat:=((bb l).1.getD p ⟨-1,[],0,l.length⟩).pos
def cO {α:Type}(l:List Nat)(r:Rs α):Nat × Int:=if 4000<l.length then(0,4) else match (bb l).2 with
 |some p=>(p,11)
 |none=>match r with
  | .out=>(0,0)
  | .bad p ov=>if ov=true then(0,13) else(endPos l p,11)
  | .ok _ p=>if p=(bb l).1.length then(0,0) else(endPos l p,11)
def wZ {α:Type}(l:List Nat)(r:Rs α)(ok2:α→World→Prop)(h:Nat)(w:World)(e:Ending)(w':World):Prop:=
 Below h w w'∧Kp w w'∧e= .returned (.tuple #[.int .i64 ((cO l r).1:Int), .int .i64 (cO l r).2])∧((cO l r).2=0→∃a p,r= .ok a p∧ok2 a w')
theorem ni (A:Option Addr)(n c:Nat)(z:Int)(w:World):(Instr.build 219 #[(0, .slice A n c),(4, .int .i64 z)]).run Tryz.prog w= .ok (.agg #[.slice A n c, .int .i64 0, .int .i64 0, .bool false, .int .i64 z]) w:=by
 have hu:=Tryz.underlying219
 go_simp
theorem ko (a b c:Int)(s:ByteArray)(w:World):(Instr.field 221 (.agg #[.int .i64 a, .string s, .int .i64 b, .int .i64 c]) 3).run Tryz.prog w= .ok (.int .i64 c) w:=by kernel_rfl
theorem mu:bz Tryz.prog 189=some (some (.pointer none)):=by kernel_rfl
theorem qX {α:Type}(l:List Nat)(hl:∀x∈l,x<256)(hlen:l.length≤9223372036854775807)(f:Nat)(cp:List Value)(h:Nat)(r:Rs α)(okv:World→α→World→Prop)(ok2:α→World→Prop)(w:World)(hh:h≤w.heap.size)(eg:∀args w,(callFunc f args).run Tryz.prog w= .ok (.enter f args) w)
  (hne:r≠ .out)
  (hok:∀a W0 W W' g,okv W0 a W→w.heap.size≤g→g<W0.heap.size→W0.heap.size≤W.heap.size→W.heap.size≤W'.heap.size→(∀k,k<W.heap.size→k≠g→W'.heap[k]? =W.heap[k]?)→ok2 a W')
  (hc:∀K:Ctx,K.Ok→K.ws=(bb l).1→(bb l).2=none→w.heap.size≤K.g→(∀ad,K.A=some ad→w.heap.size≤ad.block)→∀W,Below w.heap.size w W→PW K W 0 0 false→Calls Tryz.prog f ([]++[Value.pointer (some ⟨K.g,0,none⟩)]++cp).toArray W (EB K h W r (okv W))):
  Calls Tryz.prog 126 #[.string (strOf l), .func (.func f) #[] cp.toArray] w (wZ l r ok2 h w):=by
 have bel:=Below.refl w.heap.size w;refine Zs 40 Tryz.func126 ?_;refine aj ?_;refine Seq.box rfl rfl rfl rfl rfl ?_;intro g3 w1 n3;have e3:=Nat.le_trans bel.size n3.ge;replace bel:=bel.step n3.below;have k3:=n3.ao;refine Za ?_;refine Za ?_;refine aU 0 1 3 4 5 (aB ?_);refine Zm ?_;refine Zc (Ze Tryz.func161) (yR l _ hl hlen) ?_;rintro e wv ⟨hb2,⟨h1,rfl⟩|⟨h1,p,h2,rfl⟩|⟨h4,h2,v,rfl,own⟩⟩
 ·have hpa:cO l r=(0,4):=by unfold cO;rw[if_pos h1]
  refine⟨_,rfl,?_⟩;replace bel:=bel.step hb2;replace k3:=k3.step hb2;refine Zm ?_;refine Zx ?_;refine Zx ?_;refine Zx ?_;refine Za ?_;refine Za ?_;refine Za ?_;refine cn 0 1 3 4 5 6 7 8 (aJ (aj ?_));refine Zm ?_;refine kL ?_;refine du 0 1 3 4 5 6 7 8 18 (Zt ?_);refine Cd.aY rfl (by simp) ?_;refine aj ?_;refine Zm ?_;refine Zm ?_;refine Za ?_;refine Za ?_;refine du 0 1 3 4 5 6 7 8 18 (Zt (Cd.ret (ab.af ?_)));refine dO ?_;unfold wZ;rw[hpa];exact⟨bel.mono hh,(Kp.refl w).step bel,rfl,fun h=>by cases h⟩
 ·have hpa:cO l r=(p,11):=by unfold cO;rw[if_neg (by omega),h2]
  refine⟨_,rfl,?_⟩;replace bel:=bel.step hb2;replace k3:=k3.step hb2;refine Zm ?_;refine Zx ?_;refine Zx ?_;refine Zx ?_;refine Za ?_;refine Za ?_;refine Za ?_;refine cn 0 1 3 4 5 6 7 8 (aJ (aj ?_));refine Zm ?_;refine kL ?_;refine du 0 1 3 4 5 6 7 8 18 (Zt ?_);refine Cd.aY rfl (by simp) ?_;refine aj ?_;refine Zm ?_;refine Zm ?_;refine Za ?_;refine Za ?_;refine du 0 1 3 4 5 6 7 8 18 (Zt (Cd.ret (ab.af ?_)));refine dO ?_;unfold wZ;rw[hpa];exact⟨bel.mono hh,(Kp.refl w).step bel,rfl,fun h=>by cases h⟩
 obtain⟨A,cap,rfl,hrd⟩:=own.reads;refine⟨_,rfl,?_⟩;replace bel:=bel.step hb2;replace k3:=k3.step hb2;refine Zm ?_;refine Zx ?_;refine Zx ?_;refine Zx ?_;refine Za ?_;refine Za ?_;refine Za ?_;refine cn 0 1 3 4 5 6 7 8 (aJ (aj ?_));refine Zm ?_;refine kL ?_;refine du 0 1 3 4 5 6 7 8 18 (Zt ?_);refine Cd.aS rfl (by simp) ?_;refine Cd.skip (aB ?_);refine Zm ?_;refine Zm ?_;refine Zv (aa.eB rfl rfl Tryz.underlying9) ?_;refine Zv (aa.build rfl rfl (ni _ _ _ _ _)) ?_;refine Seq.box rfl rfl rfl rfl rfl ?_;intro g25 w2 n25;have e25:=Nat.le_trans bel.size n25.ge;have l25:=Nat.lt_of_lt_of_le k3.lt n25.ge;replace bel:=bel.step n25.below;replace k3:=k3.step n25.below;have k25:=n25.ao;refine Zl mu ?_;intro g9 w3 n9;have e9:=Nat.le_trans bel.size n9.ge;have l9:=Nat.lt_of_lt_of_le k25.lt n9.ge;replace bel:=bel.step n9.below;replace k3:=k3.step n9.below;replace k25:=k25.step n9.below;have k9:=n9.ao;refine Zq k9 ?_;intro w4 pw4;replace bel:=bel.put k9 pw4 e9;replace k3:=k3.put pw4 (by omega);replace k25:=k25.put pw4 (by omega);replace k9:=pw4.ao;refine ed 0 1 3 4 5 6 7 8 9 18 (aJ (aj ?_));refine ZL Tryz.underlying189 k9 ?_;refine Zv (aa.makeFunc (v:= .func (.func 163) #[] #[.pointer (some ⟨g3,0,none⟩), .pointer (some ⟨g9,0,none⟩)]) rfl (show gR _ _=some [] from rfl) (show gR _ _=some [.pointer (some ⟨g3,0,none⟩), .pointer (some ⟨g9,0,none⟩)] from rfl) rfl) ?_;have hB4:Below wv.heap.size wv w4:=pw4.jv (n25.below.step n9.below) (Nat.le_trans n25.below.size n9.ge) (by have:=n9.below.size;have:=k9.lt;have:=pw4.size;omega);have hKok:=D5 l hl h4 (B:=wv.heap.size) (g:=g25) (c:=cap) (A:=A) n25.ge
 generalize hK:(Ctx.mk wv.heap.size g25 cap l.length A (bb l).1)=K at hKok
 have hKg:K.g=g25:=by rw[←hK]
 have hKw:K.ws=(bb l).1:=by rw[←hK]
 have hKe:K.en=l.length:=by rw[←hK]
 have pw:PW K w4 0 0 false:=by rw[←hK];exact⟨k25,hrd.below hB4,Nat.zero_le _, .inl (by omega)⟩
 have hKA:∀ad,K.A=some ad→w.heap.size≤ad.block:=fun ad h=>by
  rw[←hK] at h;have h:A=some ad:=h;have:=(own.aI ad.block (by rw[h];rfl)).1;have:=n3.below.size;omega
 subst hKg
 have hrun:=BA K hKok 163 [.pointer (some ⟨g3,0,none⟩), .pointer (some ⟨g9,0,none⟩)] h r okv ok2 w4 pw (Nat.le_trans hh bel.size) hne (fun args w=>aO Tryz.func163 (by kernel_rfl) rfl args w)
  (fun a W0 W W' g h1 h2 h3 h4 h5 h6=>hok a W0 W W' g h1 (Nat.le_trans bel.size h2) h3 h4 h5 h6)
  (fun W hb hp=>uu K h f cp g3 g9 r (okv W) W eg (k3.step hb) (k9.step hb) hne (hc K hKok hKw h2 e25 hKA W (bel.step hb) hp))
 refine Zc (Ze Tryz.func162) (hrun) ?_;rcases Rs.de hne with ⟨q,ov,hr⟩|⟨x,q,hr⟩
 ·rw[hr]
  rintro e w6 ⟨hf,kp,rfl,d6,hp6⟩;refine⟨_,rfl,?_⟩;have k9':=kp.ao k9;have kfin:Kp w w6:=((Kp.refl w).step bel).trans kp;have bfin:Below h w w6:=(bel.mono hh).trans (hf.below (Nat.le_refl _) (by omega));have hw6:=gy K hKok q d6 ov w6 hp6;have hpos:(K.at_ q).pos=endPos l q:=by unfold Ctx.at_ endPos;rw[hKw,hKe]
  have k99:=hp6.ao;clear k9;have k9:=k9';clear bel;have bel:=Below.refl w6.heap.size w6
  cases ov with
  |true=>
   have hpa:cO l (Rs.bad (α:=α) q true)=(0,13):=by unfold cO;rw[if_neg (by omega),h2];rfl
   refine Za ?_;refine bT 0 1 3 4 5 6 7 8 9 10 18 (Zt (Cd.block (aj ?_)));refine ZL Tryz.underlying189 k9 ?_;refine Zv (aa.nilCheck rfl rfl) ?_;refine Zf 3 Tryz.underlying219 ?_;refine ZL Tryz.underlying4 k99 ?_;refine Za ?_;refine eS 0 1 3 4 5 6 7 8 9 10 18 29 (Zt ?_);refine Cd.aY rfl rfl ?_;refine aj ?_;refine Za ?_;refine Za ?_;refine eS 0 1 3 4 5 6 7 8 9 10 18 29 (Zt (Cd.ret (ab.ah (ab.af ?_))));refine dO ?_;unfold wZ;rw[hpa];exact⟨bfin.trans (bel.mono (by have:=bfin.size;omega)),kfin.step bel,rfl,fun h=>by cases h⟩
  |false=>
   have hpa:cO l (Rs.bad (α:=α) q false)=(endPos l q,11):=by unfold cO;rw[if_neg (by omega),h2];rfl
   have hwf:=fun W (hb:Below w6.heap.size w6 W)=>gy K hKok q d6 false W (hp6.step hKok.le hb);refine Za ?_;refine bT 0 1 3 4 5 6 7 8 9 10 18 (Zt (Cd.block (aj ?_)));refine ZL Tryz.underlying189 k9 ?_;refine Zv (aa.nilCheck rfl rfl) ?_;refine Zf 3 Tryz.underlying219 ?_;refine ZL Tryz.underlying4 k99 ?_;refine Za ?_;refine eS 0 1 3 4 5 6 7 8 9 10 18 29 (Zt ?_);refine Cd.aS rfl rfl ?_;refine aj ?_;refine Zm ?_;refine iC ?_;refine Za ?_;refine eN 0 1 3 4 5 6 7 8 9 10 18 29 34 (Zt ?_);refine Cd.aY rfl rfl ?_;refine aj ?_;refine ZL Tryz.underlying189 k9 ?_;refine Zc (Ze Tryz.func164) (hwf _ bel) ?_;rintro e w7 ⟨rfl,hb7⟩;refine⟨_,rfl,?_⟩;replace bel:=bel.step hb7;replace k9:=k9.step hb7;replace k99:=k99.step hb7;refine Zv (aa.field rfl rfl (ko _ _ _ _ _)) ?_;refine Za ?_;refine Za ?_;refine eN 0 1 3 4 5 6 7 8 9 10 18 29 34 (Zt (Cd.ret (ab.ah (ab.af ?_))));refine dO ?_;unfold wZ;rw[hpa];refine⟨bfin.trans (bel.mono (by have:=bfin.size;omega)),kfin.step bel,?_,fun h=>by cases h⟩;rw[←hpos]
 ·rw[hr]
  rintro e w6 ⟨hf,kp,rfl,⟨d6,hp6⟩,hov⟩;refine⟨_,rfl,?_⟩;have k9':=kp.ao k9;have kfin:Kp w w6:=((Kp.refl w).step bel).trans kp;have bfin:Below h w w6:=(bel.mono hh).trans (hf.below (Nat.le_refl _) (by omega));have hpos:(K.at_ q).pos=endPos l q:=by unfold Ctx.at_ endPos;rw[hKw,hKe]
  have k99:=hp6.ao;clear k9;have k9:=k9';clear bel;have bel:=Below.refl w6.heap.size w6;rw[hKw] at *;refine Za ?_;refine bT 0 1 3 4 5 6 7 8 9 10 18 (Zt (Cd.block (aj ?_)));refine ZL Tryz.underlying189 k9 ?_;refine Zv (aa.nilCheck rfl rfl) ?_;refine Zf 3 Tryz.underlying219 ?_;refine ZL Tryz.underlying4 k99 ?_;refine Za ?_;refine eS 0 1 3 4 5 6 7 8 9 10 18 29 (Zt ?_);refine Cd.aS rfl rfl ?_;refine aj ?_;refine Zm ?_;refine iC ?_;refine Za ?_;refine eN 0 1 3 4 5 6 7 8 9 10 18 29 34 (Zt ?_);refine Cd.cond rfl (fun h=> ?_) (fun h=> ?_)
  ·have hq:q≠(bb l).1.length:=by simpa using h
   have hpa:cO l (Rs.ok x q)=(endPos l q,11):=by unfold cO;rw[if_neg (by omega),h2];exact if_neg hq
   have hwf:=fun W (hb:Below w6.heap.size w6 W)=>gy K hKok q d6 false W (hp6.step hKok.le hb);refine aj ?_;refine ZL Tryz.underlying189 k9 ?_;refine Zc (Ze Tryz.func164) (hwf _ bel) ?_;rintro e w7 ⟨rfl,hb7⟩;refine⟨_,rfl,?_⟩;replace bel:=bel.step hb7;replace k9:=k9.step hb7;replace k99:=k99.step hb7;refine Zv (aa.field rfl rfl (ko _ _ _ _ _)) ?_;refine Za ?_;refine Za ?_;refine eN 0 1 3 4 5 6 7 8 9 10 18 29 34 (Zt (Cd.ret (ab.ah (ab.af ?_))));refine dO ?_;unfold wZ;rw[hpa];refine⟨bfin.trans (bel.mono (by have:=bfin.size;omega)),kfin.step bel,?_,fun h=>by cases h⟩;rw[←hpos]
  ·have hq:q=(bb l).1.length:=by simpa using h
   have hpa:cO l (Rs.ok x q)=(0,0):=by unfold cO;rw[if_neg (by omega),h2];exact if_pos hq
   refine Cd.skip (ab.ai (aB ?_));refine Za ?_;refine Za ?_;refine eN 0 1 3 4 5 6 7 8 9 10 18 29 34 (Zt (Cd.ret ?_));refine dO ?_;unfold wZ;rw[hpa];exact⟨bfin.trans (bel.mono (by have:=bfin.size;omega)),kfin.step bel,rfl,fun _=>⟨x,q,rfl,hov⟩⟩
def Ez (gt:Nat)(W0:World)(x:Tm)(W:World):Prop:=∃(S:Nat→Prop) (v:Value),aH W gt 71 v.cells∧dR W S x v∧∀b,S b→W0.heap.size≤b∧b<W.heap.size
theorem xd (K:Ctx)(hK:K.Ok)(n gt h:Nat)(W:World)(pw:PW K W 0 0 false)(kt:aH W gt 71 #[.int .i64 0, .string {data:= #[]}, .slice none 0 0, .slice none 0 0]) (hg:gt<K.g) (hh:h≤gt) (hKA:∀ad,K.A=some ad→ad.block≠gt) (hne:nN K.ws n 0 0≠ .out):
  Calls Tryz.prog 127 #[.pointer (some ⟨K.g,0,none⟩), .pointer (some ⟨gt,0,none⟩)] W (EB K h W (nN K.ws n 0 0) (Ez gt W)):=by
 have hcl:=ur K hK n 0 0 W pw hne;have hlt:=pw.ao.lt;have hle:=hK.le;have bel:=Below.refl W.heap.size W;refine Zs 5 Tryz.func127 ?_;refine Zr ?_;refine Zm ?_;rcases Rs.de hne with ⟨q,ov,hr⟩|⟨x,q,hr⟩
 ·rw[hr] at hcl⊢
  refine Seq.cw (Ze Tryz.func128) rfl hcl ?_;rintro e w6 ⟨hf,rfl,d6,hp6⟩;refine⟨_,rfl,fun a ha=>⟨ha.defers,?_⟩⟩;exact⟨hf,rfl,d6,hp6⟩
 rw[hr] at hcl⊢;refine Zc (Ze Tryz.func128) (hcl) ?_;rintro e wq ⟨hf,v,rfl,pwq,S,hrep,hS⟩;refine⟨_,rfl,?_⟩;have kp0:=(Kp.refl W).fz pw.ao hf;have k98:=kt.fz hf (by omega);have hs98:=k98.lt;have k98':=k98;obtain⟨A,c,A',c',rfl⟩:=hrep.form;have hq:=pwq.ao.lt;clear bel;have bel:=Below.refl wq.heap.size wq;refine Zo 4 k98 ?_;intro w1 pw1;replace k98:=pw1.ao;refine dM 0 1 ?_;refine ab.eP rfl (.inr rfl) ?_;have hsz:=pw1.size;have hbl:∀k,k≠gt→k<wq.heap.size→w1.heap[k]? =wq.heap[k]? :=fun k hk hl=>pw1.grown.block k hl (fun e=>hk (by injection e))
 have hrd:Reads w1 K.B 4 K.A K.ws.length (fB K.ws):=⟨pwq.rd.1,fun h0=>by
  obtain⟨ad,e1,e2,e3⟩:=pwq.rd.2 h0;exact⟨ad,e1,e2,fun j u hu=>(World.cell?_of_block (by rw[ag];exact hbl _ (hKA ad e1) (by omega))).trans (e3 j u hu)⟩⟩
 have k98z:aH w1 gt 71 (Value.agg #[Value.int .i64 x.op,Value.string (strOf x.name),Value.slice A x.exprs.length c,Value.slice A' x.ar.length c']).cells:=k98;have kgz:aH w1 K.g 219 _:=pwq.ao.put pw1 (by omega);exact⟨⟨pw1.grown.os.trans hf.os,pw1.grown.tape.trans hf.tape,pw1.grown.output.trans hf.output,by have:=hf.size;omega,fun k hk hne=>(hbl k (by omega) (by omega)).trans (hf.block k (by omega) hne)⟩,kp0.put k98' pw1 trivial,⟨_,rfl⟩,⟨kgz,hrd,pwq.dy,pwq.dP⟩,S,_,k98z,hrep.mono (fun _ h=>h) (fun a ha=>World.cell?_of_block (hbl _ (by have:=(hS _ ha).1;have:=kt.lt;omega) (hS _ ha).2)),fun b hb=>⟨(hS b hb).1,by have:=(hS b hb).2;omega⟩⟩
theorem rm (e:Ex)(B:Nat)(v:Value)(w:World)(hrep:lE w B e v)(hB:B≤w.heap.size):Calls Tryz.prog 136 #[v] w fun en w'=>en= .returned (.bool (decide (e.nodes≤200)&&decide (e.depth≤16)&&bF e))∧Grow w w':=by
 have hs:=fun W (hb:Below w.heap.size w W)=>jN e.nodes e 0 B v W (Nat.le_refl _) (by omega) (hrep.below (hb.mono hB)) (Nat.le_trans hB hb.size);have hbt:=fun W (hb:Below w.heap.size w W)=>jj e.nodes e B v W (Nat.le_refl _) (hrep.below (hb.mono hB)) (Nat.le_trans hB hb.size);have hc:=CL e;have hdn:=e.bh;have hsz:=m8 e 0
 have hres:(decide (e.nodes≤200)&&decide (e.depth≤16))=(decide ((rl e 0).1≤200)&&decide ((rl e 0).2≤16)):=by
  obtain⟨c1,c2⟩:=hc;rw[Bool.eq_iff_iff];simp only[Bool.and_eq_true,decide_eq_true_eq]
  constructor
  ·rintro⟨h1,h2⟩
   rw[c2 (by omega)];omega
  ·rintro⟨h1,h2⟩
   have h3:e.nodes≤200:=by omega
   rw[c2 (by omega)] at h2;omega
 rw[hres];obtain⟨A,c,rfl,-⟩:=hrep.open;have bel:=Below.refl w.heap.size w
 generalize (rl e 0)=s at *
 refine Zs 10 Tryz.func136 ?_;refine aj ?_;refine Seq.box rfl rfl rfl rfl rfl ?_;intro g1 w1 n1;have e1:=Nat.le_trans bel.size n1.ge;replace bel:=bel.step n1.below;have k1:=n1.ao;refine Za ?_;refine bu 0 1 2 (aB ?_);refine ZW 4 Tryz.underlying105 k1 ?_;refine Zc (Ze Tryz.func179) (hs _ bel) ?_;rintro en w5 ⟨rfl,hb5⟩;refine⟨_,rfl,?_⟩;replace bel:=bel.step hb5;replace k1:=k1.step hb5;refine Zc (Ze Tryz.func141) (iN s.1 s.2 _) ?_;rintro en w6 ⟨rfl,hb6⟩;refine⟨_,rfl,?_⟩;replace bel:=bel.step hb6;replace k1:=k1.step hb6;refine Zm ?_;refine av.start ?_;refine bk (fun hcx=>aa.dr rfl rfl Tryz.underlying105 rfl k1 (m:=4) (by kernel_rfl) rfl) ?_;refine av.bj rfl rfl rfl rfl rfl rfl rfl (fun hcx=>Ze Tryz.func180) (fun hcx=>hbt _ bel) ?_;intro w2 hw2;replace bel:=bel.step hw2;replace k1:=k1.step hw2;refine ep ?_;refine Za ?_;refine bu 0 1 2 (Zt (Cd.ret ?_));refine aX ?_;exact⟨aW (aF (by cases (decide (s.1≤200)&&decide (s.2≤16))<;>rfl)),bel⟩
theorem zM (t:Tm)(B:Nat)(v:Value)(w:World)(hrep:fv w B t v)(hB:B≤w.heap.size):Calls Tryz.prog 99 #[v] w fun en w'=>en= .returned (.bool (bV t))∧Grow w w':=by
 have hs:=fun W (hb:Below w.heap.size w W)=>mY t.nodes t 0 B v W (Nat.le_refl _) (by omega) (hrep.below (hb.mono hB)) (Nat.le_trans hB hb.size);have hbt:=fun W (hb:Below w.heap.size w W)=>rS t.nodes t B v W (Nat.le_refl _) (hrep.below (hb.mono hB)) (Nat.le_trans hB hb.size);have hc:=C5 t;have hdn:=t.bh
 have hres:(decide (t.nodes≤200)&&decide (t.depth≤16))=(decide ((sZ t 0).1≤200)&&decide ((sZ t 0).2≤16)):=by
  obtain⟨c1,c2⟩:=hc;rw[Bool.eq_iff_iff];simp only[Bool.and_eq_true,decide_eq_true_eq]
  constructor
  ·rintro⟨h1,h2⟩
   rw[c2 (by omega)];omega
  ·rintro⟨h1,h2⟩
   have h3:t.nodes≤200:=by omega
   rw[c2 (by omega)] at h2;omega
 unfold bV;rw[hres];obtain⟨A,c,A',c',rfl,-⟩:=hrep.open;have bel:=Below.refl w.heap.size w
 generalize (sZ t 0)=s at *
 refine Zs 10 Tryz.func99 ?_;refine aj ?_;refine Seq.box rfl rfl rfl rfl rfl ?_;intro g1 w1 n1;have e1:=Nat.le_trans bel.size n1.ge;replace bel:=bel.step n1.below;have k1:=n1.ao;refine Za ?_;refine bu 0 1 2 (aB ?_);refine ZW 4 Tryz.underlying71 k1 ?_;refine Zc (Ze Tryz.func140) (hs _ bel) ?_;rintro en w5 ⟨rfl,hb5⟩;refine⟨_,rfl,?_⟩;replace bel:=bel.step hb5;replace k1:=k1.step hb5;refine Zc (Ze Tryz.func141) (iN s.1 s.2 _) ?_;rintro en w6 ⟨rfl,hb6⟩;refine⟨_,rfl,?_⟩;replace bel:=bel.step hb6;replace k1:=k1.step hb6;refine Zm ?_;refine av.start ?_;refine bk (fun hcx=>aa.dr rfl rfl Tryz.underlying71 rfl k1 (m:=4) (by kernel_rfl) rfl) ?_;refine av.bj rfl rfl rfl rfl rfl rfl rfl (fun hcx=>Ze Tryz.func142) (fun hcx=>hbt _ bel) ?_;intro w2 hw2;replace bel:=bel.step hw2;replace k1:=k1.step hw2;refine ep ?_;refine Za ?_;refine bu 0 1 2 (Zt (Cd.ret ?_));refine aX ?_;exact⟨aW (aF (by cases (decide (s.1≤200)&&decide (s.2≤16))<;>rfl)),bel⟩
section
variable {α β:Type}
def fL (f:Nat→Nat→Rs α):Prop:=∀p d a q,f p d= .ok a q→p<q
def Def (f:Nat→Nat→Rs α)(m:Nat):Prop:=∀p d,m≤p→f p d≠ .out
theorem Def.up {f:Nat→Nat→Rs α}{m m':Nat}(h:Def f m)(hm:m≤m'):Def f m':=fun p d hp=>h p d (by omega)
theorem Rs.bJ {r:Rs α}{f:α→Nat→Rs β}{b:β}{q:Nat}(h:r.bind f= .ok b q):∃a p,r= .ok a p∧f a p= .ok b q:=by
 cases r with
 |out=>cases h
 |bad p o=>cases h
 |ok a p=>exact⟨a,p,rfl,h⟩
theorem Rs.bm {r:Rs α}{f:α→Nat→Rs β}(h:r≠ .out)(hf:∀a p,r= .ok a p→f a p≠ .out):r.bind f≠ .out:=by
 cases r with
 |out=>exact absurd rfl h
 |bad p o=>exact fun h=>by cases h
 |ok a p=>exact hf a p rfl
theorem kC {ws:List Wd}{s:List Nat}{p q:Nat}{u:Unit}(h:fy ws s p= .ok u q):q=p+1∧zN ws p s=true:=by
 unfold fy at h;split at h
 ·rename_i hs
  injection h with _ h
  exact⟨h.symm,hs⟩
 ·cases h
theorem nF (ws:List Wd)(s:List Nat)(p:Nat):fy ws s p≠ .out:=by
 unfold fy;split<;>exact fun h=>by cases h
theorem lu {p d q:Nat}{u:Unit}(h:fG p d= .ok u q):q=p∧d<64:=by
 unfold fG at h;split at h
 ·cases h
 ·injection h with _ h
  exact⟨h.symm,by omega⟩
theorem pM (p d:Nat):fG p d≠ .out:=by
 unfold fG;split<;>exact fun h=>by cases h
theorem om (ws:List Wd):∀(bQ:List (Nat→Nat→Rs α)),(∀f∈bQ,fL f)→∀first p d xs q,dA ws bQ first p d= .ok xs q→p≤q
 | [],_,first,p,d,xs,q,h=>by injection h with _ h;omega
 |f::r,hm,first,p,d,xs,q,h=>by
  rw[dA] at h;obtain⟨u,p1,h1,h⟩:=Rs.bJ h;obtain⟨x,p2,h2,h⟩:=Rs.bJ h;obtain⟨ys,p3,h3,h⟩:=Rs.bJ h;injection h with _ h
  have e1:p≤p1:=by
   split at h1
   ·injection h1 with _ h1;omega
   ·have:=(kC h1).1;omega
  have e2:=hm f (by simp) _ _ _ _ h2;have e3:=om ws r (fun g hg=>hm g (by simp[hg])) _ _ _ _ _ h3;omega
theorem qG (ws:List Wd)(m:Nat):∀(bQ:List (Nat→Nat→Rs α)),(∀f∈bQ,fL f∧Def f m)→∀first p d,m≤p→dA ws bQ first p d≠ .out
 | [],_,first,p,d,_=>fun h=>by cases h
 |f::r,hm,first,p,d,hp=>by
  rw[dA];refine Rs.bm ?_ fun u p1 h1=> ?_
  ·split
   ·exact fun h=>by cases h
   ·exact nF _ _ _
  have e1:p≤p1:=by
   split at h1
   ·injection h1 with _ h1;omega
   ·have:=(kC h1).1;omega
  refine Rs.bm ((hm f (by simp)).2 _ _ (by omega)) fun x p2 h2=> ?_;have e2:=(hm f (by simp)).1 _ _ _ _ h2;refine Rs.bm (qG ws m r (fun g hg=>hm g (by simp[hg])) _ _ _ (by omega)) fun ys p3 h3=> ?_;exact fun h=>by cases h
theorem gV (ws:List Wd)(bQ:List (Nat→Nat→Rs α))(hm:∀f∈bQ,fL f){p d:Nat}{xs:List α}{q:Nat}(h:cR ws bQ p d= .ok xs q):p+2≤q:=by
 unfold cR at h;obtain⟨u,p1,h1,h⟩:=Rs.bJ h;obtain⟨u2,p2,h2,h⟩:=Rs.bJ h;obtain⟨ys,p3,h3,h⟩:=Rs.bJ h;obtain⟨u3,p4,h4,h⟩:=Rs.bJ h;injection h with _ h
 have:=(kC h1).1;have:=(lu h2).1;have:=om ws bQ hm _ _ _ _ _ h3;have:=(kC h4).1;omega
theorem iM (ws:List Wd)(bQ:List (Nat→Nat→Rs α)){p:Nat}(d:Nat)(hm:∀f∈bQ,fL f∧Def f (p+1)):cR ws bQ p d≠ .out:=by
 unfold cR;refine Rs.bm (nF _ _ _) fun u p1 h1=> ?_;refine Rs.bm (pM _ _) fun u2 p2 h2=> ?_;have:=(kC h1).1;have:=(lu h2).1;refine Rs.bm (qG ws (p+1) bQ hm _ _ _ (by omega)) fun xs p3 h3=> ?_;refine Rs.bm (nF _ _ _) fun u3 p4 h4=> ?_;exact fun h=>by cases h
theorem pV {ws:List Wd}{p q:Nat}{x:List Nat}(h:fW ws p= .ok x q):q=p+1∧x=(fT ws p).text∧(fT ws p).kind=3∧dD (fT ws p).text=false:=by
 unfold fW at h;split at h
 ·rename_i hs
  injection h with h1 h
  exact⟨h.symm,h1.symm,hs.1,hs.2⟩
 ·cases h
theorem r6 (ws:List Wd)(p:Nat):fW ws p≠ .out:=by
 unfold fW;split<;>exact fun h=>by cases h
theorem tB {ws:List Wd}{E0:Nat→Nat→Rs Ex}(hE:fL E0){op:Int}{k p d:Nat}{x:Ex}{q:Nat}(h:eK ws E0 op k p d= .ok x q):p<q:=by
 unfold eK at h;obtain⟨xs,p1,h1,h⟩:=Rs.bJ h;injection h with _ h
 have:=gV ws _ (fun f hf=>(List.mem_replicate.1 hf).2▸hE) h1;omega
theorem uH {ws:List Wd}{E0:Nat→Nat→Rs Ex}(hE:fL E0){op:Int}{k p d:Nat}(hd:Def E0 (p+1)):eK ws E0 op k p d≠ .out:=by
 unfold eK;refine Rs.bm (iM ws _ d fun f hf=>(List.mem_replicate.1 hf).2▸⟨hE,hd.up (by omega)⟩) fun xs p1 h1=> ?_;exact fun h=>by cases h
theorem xh {ws:List Wd}{E0:Nat→Nat→Rs Ex}(hE:fL E0):fL (j0 ws E0):=by
 intro p d x q h;unfold j0 at h
 repeat' split at h
 all_goals first
  |exact tB hE h
  |(injection h with _ h;omega)
  |(obtain⟨nm,p1,h1,h⟩:=Rs.bJ h;injection h with _ h;have:=(pV h1).1;omega)
  |(obtain⟨xs,p1,h1,h⟩:=Rs.bJ h;injection h with _ h;have:=gV ws _ (fun f hf=>(List.mem_singleton.1 hf)▸hE) h1;omega)
  |cases h
theorem yQ {ws:List Wd}{E0:Nat→Nat→Rs Ex}(hE:fL E0){p d:Nat}(hd:Def E0 (p+1)):j0 ws E0 p d≠ .out:=by
 unfold j0
 repeat' split
 all_goals first
  |exact uH hE hd
  |exact fun h=>by cases h
  |exact Rs.bm (r6 _ _) fun nm p1 h1=>fun h=>by cases h
  |exact Rs.bm (iM ws _ d fun f hf=>(List.mem_singleton.1 hf)▸⟨hE,hd⟩) fun xs p1 h1=>fun h=>by cases h
theorem nW {S:Nat→Nat→Rs Ex}(hS:fL S)(op:Int):fL (gI S op):=by
 intro p d x q h;unfold gI at h;obtain⟨u,p1,h1,h⟩:=Rs.bJ h;obtain⟨y,p2,h2,h⟩:=Rs.bJ h;injection h with _ h
 have:=(lu h1).1;have:=hS _ _ _ _ h2;omega
theorem qa {S:Nat→Nat→Rs Ex}(op:Int){p d:Nat}(hS:Def S (p+1)):gI S op p d≠ .out:=by
 unfold gI;refine Rs.bm (pM _ _) fun u p1 h1=> ?_;have:=(lu h1).1;exact Rs.bm (hS _ _ (by omega)) fun y p2 h2=>fun h=>by cases h
theorem kO {ws:List Wd}{S E0:Nat→Nat→Rs Ex}(hS:fL S)(hE:fL E0):fL (ec ws S E0):=by
 intro p d x q h;unfold ec at h;split at h
 ·exact nW hS _ _ _ _ _ h
 ·split at h
  ·exact nW hS _ _ _ _ _ h
  ·exact xh hE _ _ _ _ h
theorem vZ {ws:List Wd}{S E0:Nat→Nat→Rs Ex}(hE:fL E0){p d:Nat}(hS:Def S (p+1))(hd:Def E0 (p+1)):ec ws S E0 p d≠ .out:=by
 unfold ec;split
 ·exact qa _ hS
 ·split
  ·exact qa _ hS
  ·exact yQ hE hd
end
structure BD (f:PF):Prop where
 E:∀lvl,fL (f.E lvl)
 L:∀lvl x p d a q,f.L lvl x p d= .ok a q→p≤q
 S:fL f.S
theorem mw {ws:List Wd}{f:PF}(h:BD f){lvl:Nat}{x:Ex}{p d:Nat}{a:Ex}{q:Nat}(hl:fX ws f lvl x p d= .ok a q):p≤q:=by
 unfold fX at hl
 cases ho:opAt ws lvl p with
 |none=>rw[ho] at hl;injection hl with _ hl;omega
 |some op=>
  rw[ho] at hl;obtain⟨r,p1,h1,hl⟩:=Rs.bJ hl;have:=h.E _ _ _ _ _ h1;split at hl
  ·injection hl with _ hl;omega
  ·have:=h.L _ _ _ _ _ _ hl;omega
theorem nx {L:Nat→Ex→Nat→Nat→Rs Ex}{S:Nat→Nat→Rs Ex}(hL:∀lvl x p d a q,L lvl x p d= .ok a q→p≤q)(hS:fL S):∀j,fL (sX L S j)
 |0=>hS
 |j+1=>fun p d a q h=>by
  rw[sX] at h;obtain⟨x,p1,h1,h⟩:=Rs.bJ h;have:=nx hL hS j _ _ _ _ h1;have:=hL _ _ _ _ _ _ h;omega
theorem ic (ws:List Wd):∀n,BD (bM ws n)
 |0=>⟨fun _ _ _ _ _ h=>(by cases h),fun _ _ _ _ _ _ h=>(by cases h),fun _ _ _ _ h=>(by cases h)⟩
 |n+1=>by
  have ih:=ic ws n;have hL:∀lvl x p d a q,fX ws (bM ws n) lvl x p d= .ok a q→p≤q:=fun lvl x p d a q h=>mw ih h;have hS:=kO (ws:=ws) ih.S (ih.E 0);exact⟨fun lvl=>nx hL hS _,hL,hS⟩
theorem CF {ws:List Wd}{lvl p:Nat}{op:Int}(h:opAt ws lvl p=some op):p<ws.length:=by
 rcases Nat.lt_or_ge p ws.length with h1|h1
 ·exact h1
 ·unfold opAt fT at h
  rw[List.getD_eq_getElem?_getD,List.getElem?_eq_none h1] at h;simp at h
structure EH (f:PF)(m:Nat):Prop where
 E:∀lvl,Def (f.E lvl) m
 L:∀lvl x p d,m≤p→f.L lvl x p d≠ .out
 S:Def f.S m
theorem zq {ws:List Wd}{f:PF}(hm:BD f){m:Nat}(h:EH f (m+1)){lvl:Nat}{x:Ex}{p d:Nat}(hp:m≤p):fX ws f lvl x p d≠ .out:=by
 unfold fX
 cases ho:opAt ws lvl p with
 |none=>exact fun h=>by cases h
 |some op=>
  refine Rs.bm (h.E _ _ _ (by omega)) fun r p1 h1=> ?_;have:=hm.E _ _ _ _ _ h1;split
  ·exact fun h=>by cases h
  ·exact h.L _ _ _ _ (by omega)
theorem qb {L:Nat→Ex→Nat→Nat→Rs Ex}{S:Nat→Nat→Rs Ex}{m:Nat}(hLm:∀lvl x p d a q,L lvl x p d= .ok a q→p≤q)(hSm:fL S)(hL:∀lvl x p d,m≤p→L lvl x p d≠ .out)(hS:Def S m):∀j,Def (sX L S j) m
 |0=>hS
 |j+1=>fun p d hp=>by
  rw[sX];refine Rs.bm (qb hLm hSm hL hS j _ _ hp) fun x p1 h1=> ?_;have:=nx hLm hSm j _ _ _ _ h1;exact hL _ _ _ _ (by omega)
theorem xI {ws:List Wd}{p:Nat}(h:ws.length≤p):fT ws p=⟨-1,[],0,0⟩:=by
 unfold fT;rw[List.getD_eq_getElem?_getD,List.getElem?_eq_none h];rfl
theorem wk {ws:List Wd}{p:Nat}(h:ws.length≤p)(S E0:Nat→Nat→Rs Ex)(d:Nat):ec ws S E0 p d= .bad p false:=by
 unfold ec zN j0;rw[xI h];rfl
theorem zw {ws:List Wd}{p:Nat}(h:ws.length≤p)(f:PF)(lvl:Nat)(x:Ex)(d:Nat):fX ws f lvl x p d= .ok x p:=by
 unfold fX
 cases ho:opAt ws lvl p with
 |none=>rfl
 |some op=>have:=CF ho;omega
theorem nh (ws:List Wd):∀n m,ws.length<n+1+m→EH (bM ws (n+1)) m
 |0,m,h=>by
  have im:=ic ws 0;have hLm:∀lvl x p d a q,fX ws (bM ws 0) lvl x p d= .ok a q→p≤q:=fun lvl x p d a q h=>mw im h;have hSm:=kO (ws:=ws) im.S (im.E 0);have hL:∀lvl x p d,m≤p→fX ws (bM ws 0) lvl x p d≠ .out:=fun lvl x p d hp=>by rw[zw (by omega)];exact fun h=>by cases h
  have hS:Def (ec ws (bM ws 0).S ((bM ws 0).E 0)) m:=fun p d hp=>by rw[wk (by omega)];exact fun h=>by cases h
  exact⟨fun lvl=>qb hLm hSm hL hS _,hL,hS⟩
 |n+1,m,h=>by
  have ih:=nh ws n (m+1) (by omega);have im:=ic ws (n+1);have hLm:∀lvl x p d a q,fX ws (bM ws (n+1)) lvl x p d= .ok a q→p≤q:=fun lvl x p d a q h=>mw im h;have hSm:=kO (ws:=ws) im.S (im.E 0);have hL:∀lvl x p d,m≤p→fX ws (bM ws (n+1)) lvl x p d≠ .out:=fun lvl x p d hp=>zq im ih hp;have hS:Def (ec ws (bM ws (n+1)).S ((bM ws (n+1)).E 0)) m:=fun p d hp=>vZ (im.E 0) (ih.S.up (by omega)) ((ih.E 0).up (by omega));exact⟨fun lvl=>qb hLm hSm hL hS _,hL,hS⟩
theorem Rs.B9 {α β:Type}{r:Rs α}{f:α→β}{b:β}{q:Nat}(h:r.map f= .ok b q):∃a,r= .ok a q∧b=f a:=by
 unfold Rs.map at h;obtain⟨a,p,h1,h⟩:=Rs.bJ h;injection h with h2 h3
 exact⟨a,by rw[h1,h3],h2.symm⟩
theorem sC {E0:Nat→Nat→Rs Ex}{T:Nat→Nat→Rs Tm}{n m:Nat}{f:Nat→Nat→Rs Part}(h:f∈jW E0 T n m):f=(fun p d=>(E0 p d).map .inl)∨f=(fun p d=>(T p d).map .inr):=by
 unfold jW at h;rcases List.mem_append.1 h with h|h
 ·exact .inl (List.mem_replicate.1 h).2
 ·exact .inr (List.mem_replicate.1 h).2
theorem qz {E0:Nat→Nat→Rs Ex}{T:Nat→Nat→Rs Tm}(hE:fL E0)(hT:fL T){n m:Nat}:∀f∈jW E0 T n m,fL f:=fun f hf p d a q h=>by
 rcases sC hf with rfl|rfl
 ·obtain⟨x,h1,-⟩:=Rs.B9 h
  exact hE _ _ _ _ h1
 ·obtain⟨x,h1,-⟩:=Rs.B9 h
  exact hT _ _ _ _ h1
theorem yF {E0:Nat→Nat→Rs Ex}{T:Nat→Nat→Rs Tm}{k:Nat}(hE:Def E0 k)(hT:Def T k){n m:Nat}:∀f∈jW E0 T n m,Def f k:=fun f hf p d hp=>by
 rcases sC hf with rfl|rfl
 ·exact Rs.bm (hE _ _ hp) fun a q h=>fun h=>by cases h
 ·exact Rs.bm (hT _ _ hp) fun a q h=>fun h=>by cases h
theorem wg {ws:List Wd}{E0:Nat→Nat→Rs Ex}{T:Nat→Nat→Rs Tm}(hE:fL E0)(hT:fL T):fL (iP ws E0 T):=by
 intro p d x q h;unfold iP at h
 repeat' split at h
 ·cases h
 ·injection h with _ h;omega
 ·obtain⟨xs,p1,h1,h⟩:=Rs.bJ h
  injection h with _ h
  have:=gV ws _ (fun f hf=>(List.mem_singleton.1 hf)▸fun p d a q h=>by have:=(pV h).1;omega) h1;omega
 ·cases h
 ·obtain⟨xs,p1,h1,h⟩:=Rs.bJ h
  injection h with _ h
  have:=gV ws _ (qz hE hT) h1;omega
theorem yV {ws:List Wd}{E0:Nat→Nat→Rs Ex}{T:Nat→Nat→Rs Tm}(hE:fL E0)(hT:fL T){p d:Nat}(dE:Def E0 (p+1))(dT:Def T (p+1)):iP ws E0 T p d≠ .out:=by
 unfold iP
 repeat' split
 ·exact fun h=>by cases h
 ·exact fun h=>by cases h
 ·refine Rs.bm (iM ws _ d fun f hf=>(List.mem_singleton.1 hf)▸⟨fun p d a q h=>by have:=(pV h).1;omega,fun p d _=>r6 ws p⟩) fun xs p1 h1=>fun h=>by cases h
 ·exact fun h=>by cases h
 ·refine Rs.bm (iM ws _ d fun f hf=>⟨qz hE hT f hf,yF (dE.up (by omega)) (dT.up (by omega)) f hf⟩) fun xs p1 h1=>fun h=>by cases h
theorem pd (ws:List Wd):∀n,fL (nN ws n)
 |0=>fun _ _ _ _ h=>(by cases h)
 |n+1=>fun p d x q h=>wg ((ic ws (n+1)).E 0) (pd ws n) p d x q h
theorem ym {ws:List Wd}{p:Nat}(h:ws.length≤p)(E0:Nat→Nat→Rs Ex)(T:Nat→Nat→Rs Tm)(d:Nat):iP ws E0 T p d= .bad p false:=by
 unfold iP;rw[xI h];rfl
theorem sd (ws:List Wd):∀n m,ws.length<n+1+m→Def (nN ws (n+1)) m
 |0,m,h=>fun p d hp=>by
  show iP ws _ _ p d≠ .out;rw[ym (by omega)];exact fun h=>by cases h
 |n+1,m,h=>fun p d hp=>by
  have hE:=(nh ws (n+1) (m+1) (by omega)).E 0;have hT:=sd ws n (m+1) (by omega);exact yV ((ic ws (n+2)).E 0) (pd ws (n+1)) (hE.up (by omega)) (hT.up (by omega))
def lM (ws:List Wd):Rs Ex:=(bM ws (ws.length+1)).E 0 0 0
def jZ (ws:List Wd):Rs Tm:=nN ws (ws.length+1) 0 0
theorem uS (ws:List Wd):lM ws≠ .out:=(nh ws ws.length 0 (by omega)).E 0 0 0 (Nat.le_refl _)
theorem rj (ws:List Wd):jZ ws≠ .out:=sd ws ws.length 0 (by omega) 0 0 (Nat.le_refl _)
section
variable {P:Program} {n:Nat} {F:List (Nat × Value)} {w:World} {v v':Value}
theorem ab.oa {fn:Func}{R:Ending→World→Prop}{e:Exit}{p q s g:Nat}{ty t:TypeId}{cs:Array Value}{dsc:TypeDesc}(hr:fn.results= #[.cell p ty, .tmp q, .tmp s]) (hl:look F p=some (.pointer (some ⟨g,0,none⟩))) (hq:look F q=some v) (hq':look F s=some v') (hb:aH w g t cs) (hu:P.underlying ty=some dsc)
  (hd:(match dsc with| .struct _| .array _ _=>true|_=>false)=true) {m:Nat} (hs:dh P ty m=true) (hm:cs.size=m) (he:e= .ret∨e= .normal) (h:R (.returned (.tuple #[.agg cs,v,v'])) w):ab (bodyPost P fn R) e n F w:=by
 refine ab.end_ (fun a ha=> ?_) he h
 ·have hp':a.tmps[p]?.getD undef= .pointer (some ⟨g,0,none⟩):=by simp[ha.slot p _ hl]
  have e:=run_loadVar_row (P:=P) w g t ty cs (0,0) dsc hb hu (by cases dsc<;>first|rfl|(simp at hd)) (by obtain⟨inf,hi,hsz⟩:=bB hs;rw[hi,hm,←hsz];rfl);simp[results,hr,hp',asAddr,e,ha.slot q _ hq,ha.slot s _ hq']
end
def iZ:Tm:= .mk 0 [] [] []
def mj:Ex:= .mk 0 0 [] []
theorem dR.zero (W:World)(S:Nat→Prop):dR W S iZ (.agg #[.int .i64 0, .string (strOf []), .slice none 0 0, .slice none 0 0]):=
 .mk (vs:=[]) (us:=[]) rfl rfl (by simp) (by simp) (by unfold bw;decide) (by simp) (by simp) (fun i e v h=>by simp at h) (fun i e v h=>by simp at h) (fun h=>absurd rfl h) (fun h=>absurd rfl h)
theorem cr.zero (W:World)(S:Nat→Prop):cr W S mj (.agg #[.int .i64 0, .int .i64 0, .string (strOf []), .slice none 0 0]):=
 .mk (vs:=[]) rfl (by simp) (by unfold bw;decide) (by unfold bw;decide) (by simp) (by simp) (fun i e v h=>by simp at h) (fun h=>absurd rfl h)
def cA (l:List Nat):Tm × Nat × Int:=if(cO l (jZ (bb l).1)).2≠0 then(iZ,(cO l (jZ (bb l).1)).1,(cO l (jZ (bb l).1)).2) else match jZ (bb l).1 with
 | .ok x _=>if bV x=true then(x,0,0) else(iZ,0,13)
 |_=>(iZ,0,0)
theorem pA {α:Type}{l:List Nat}{r:Rs α}(h:(cO l r).2=0):(cO l r).1=0:=by
 unfold cO at h⊢
 by_cases h4:4000<l.length
 ·rw[if_pos h4]
 ·rw[if_neg h4] at h⊢
  cases h2:(bb l).2 with
  |some p=>rw[h2] at h;cases h
  |none=>
   rw[h2] at h
   cases r with
   |out=>rfl
   |bad p ov=>cases ov<;>cases h
   |ok a p=>
    dsimp only at h⊢;split at h
    ·rename_i h3;rw[if_pos h3]
    ·cases h
theorem Ez.kept {gt:Nat}{w W0 W W':World}{a:Tm}{g:Nat}(h:Ez gt W0 a W)(hgt:gt<w.heap.size)(h2:w.heap.size≤g)(h3:g<W0.heap.size)(h4:W0.heap.size≤W.heap.size)(h5:W.heap.size≤W'.heap.size)(h6:∀k,k<W.heap.size→k≠g→W'.heap[k]? =W.heap[k]?):Ez gt w a W':=by
 obtain⟨S,v,h7,h8,h9⟩:=h;refine⟨S,v,?_,h8.mono (fun _ h=>h) (fun p hp=>World.cell?_of_block (h6 _ (h9 _ hp).2 (by have:=(h9 _ hp).1;omega))),fun b hb=>⟨by have:=(h9 b hb).1;omega,by have:=(h9 b hb).2;omega⟩⟩;unfold aH at h7⊢;rw[h6 gt (by omega) (by omega)];exact h7
theorem mD (w:World):(Instr.build 71 #[]).run Tryz.prog w= .ok (.agg #[.int .i64 0, .string (strOf []), .slice none 0 0, .slice none 0 0]) w:=by kernel_rfl
theorem mB (w:World):(Instr.build 105 #[]).run Tryz.prog w= .ok (.agg #[.int .i64 0, .int .i64 0, .string (strOf []), .slice none 0 0]) w:=by kernel_rfl
theorem rX (l:List Nat)(w:World)(hl:∀x∈l,x<256)(hlen:l.length≤9223372036854775807):
  Calls Tryz.prog 81 #[.string (strOf l)] w fun e w'=>Below w.heap.size w w'∧∃(v:Value) (S:Nat→Prop),e= .returned (.tuple #[v, .int .i64 ((cA l).2.1:Int), .int .i64 (cA l).2.2])∧dR w' S (cA l).1 v∧∀b,S b→w.heap.size≤b∧b<w'.heap.size:=by
 have bel:=Below.refl w.heap.size w;refine Zs 27 Tryz.func81 ?_;refine aj ?_;refine Zl aK ?_;intro g2 w1 n2;have e2:=Nat.le_trans bel.size n2.ge;replace bel:=bel.step n2.below;have k2:=n2.ao;refine Za ?_;refine Za ?_;refine aZ 0 2 3 4 (aB ?_);refine Zl aK ?_;intro g5 w2 n5;have e5:=Nat.le_trans bel.size n5.ge;have l5:=Nat.lt_of_lt_of_le k2.lt n5.ge;replace bel:=bel.step n5.below;replace k2:=k2.step n5.below;have k5:=n5.ao;refine aU 0 2 3 4 5 (aB ?_);refine Zm ?_;refine Zv (aa.makeFunc (v:= .func (.func 127) #[] #[.pointer (some ⟨g5,0,none⟩)]) rfl (show gR _ _=some [] from rfl) (show gR _ _=some [.pointer (some ⟨g5,0,none⟩)] from rfl) rfl) ?_;have hg5:=k5.lt
 have hps:=qX l hl hlen 127 [.pointer (some ⟨g5,0,none⟩)] g5 (jZ (bb l).1) (Ez g5) (Ez g5 w2) w2 (Nat.le_of_lt hg5) (fun args w=>aO Tryz.func127 (by kernel_rfl) rfl args w) (rj _)
  (fun a W0 W W' g h1 h2 h3 h4 h5 h6=>h1.kept hg5 h2 h3 h4 h5 h6)
  (fun K hK hw h2 hg hA W hb hp=>by
   have:=xd K hK ((bb l).1.length+1) g5 g5 W hp (k5.step hb) (by omega) (Nat.le_refl _) (fun ad ha=>by have:=hA ad ha;omega) (by rw[hw];exact rj _);rw[hw] at this;exact this)
 refine Zc (Ze Tryz.func126) (hps) ?_;rintro e w6 ⟨hb6,kp6,rfl,hok⟩;refine⟨_,rfl,?_⟩;have bel6:Below w.heap.size w w6:=bel.trans (hb6.mono e5);have k2':aH w6 g2 71 _:=(show w6.heap[g2]? =w2.heap[g2]? from hb6.block g2 l5).trans k2;have hlt6:=bel6.size;clear bel k5 k2;have bel:=bel6;have k2:=k2';have hA:=pA (l:=l) (r:=jZ (bb l).1);obtain⟨z,hz⟩:∃z,(cO l (jZ (bb l).1)).2=z:=⟨_,rfl⟩;obtain⟨y,hy⟩:∃y,(cO l (jZ (bb l).1)).1=y:=⟨_,rfl⟩;rw[hz] at hok hA⊢;rw[hy] at hA⊢
 by_cases hz0:z=0
 ·obtain⟨x,q,hx,S,v,k5,hrep,hS⟩:=hok hz0
  have hps2:cA l=if bV x=true then(x,0,0) else(iZ,0,13):=by unfold cA;rw[if_neg (by rw[hz];exact fun h=>h hz0),hx]
  obtain rfl:=hA hz0;subst hz0;have hrb:fv w6 w6.heap.size x v:=hrep.mono (fun b hb=>(hS b hb).2) (fun _ _=>rfl);obtain⟨A,c,A',c',rfl⟩:=hrep.form;have hri:=zM x w6.heap.size _ w6 hrb (Nat.le_refl _);have k5:aH w6 g5 71 #[.int .i64 x.op, .string (strOf x.name), .slice A x.exprs.length c, .slice A' x.ar.length c']:=k5
  generalize bV x=b at *
  refine Zm ?_;refine Zx ?_;refine Zx ?_;refine Za ?_;refine Za ?_;refine bp 0 2 3 4 5 6 7 (aJ (aj ?_));refine Zm ?_;refine Zv ((aa.fm rfl rfl rfl).lI (rfl)) ?_;refine Zm ?_;refine Seq.aC (aa.dr rfl rfl Tryz.underlying71 rfl k5 (m:=4) (by kernel_rfl) rfl) rfl rfl rfl rfl rfl ?_;refine Seq.kE (Ze Tryz.func99) rfl rfl rfl rfl rfl (hri) ?_;rintro e w7 ⟨rfl,hb7⟩;refine⟨_,rfl,?_⟩;replace bel:=bel.step hb7;replace k2:=k2.step hb7;replace k5:=k5.step hb7;refine Seq.aC (aa.not rfl rfl) rfl rfl rfl rfl rfl ?_;refine Zv (aa.bZ rfl rfl rfl) ?_;have hw67:=hb7.size
  cases b with
  |true=>
   refine cn 0 2 3 4 5 6 7 20 (Zt ?_);refine Cd.aS rfl rfl ?_;refine Cd.skip (aJ (aj ?_));refine Zm ?_;refine kL ?_;refine du 0 2 3 4 5 6 7 20 22 (Zt ?_);refine Cd.aS rfl (by simp) ?_;refine Cd.skip (aB ?_);refine ZW 4 Tryz.underlying71 k5 ?_;refine Zo 4 k2 ?_;intro w3 pw3;replace bel:=bel.put k2 pw3 e2;replace k5:=k5.put pw3 (by omega);replace k2:=pw3.ao;refine Za ?_;refine Za ?_;refine du 0 2 3 4 5 6 7 20 22 (Zt (Cd.ret ?_));refine ab.oa rfl rfl rfl rfl k2 Tryz.underlying71 rfl (m:=4) (by kernel_rfl) rfl (.inl rfl) ?_;rw[hps2,if_pos rfl];have hsz:=pw3.size;refine⟨bel, .agg #[.int .i64 x.op, .string (strOf x.name), .slice A x.exprs.length c, .slice A' x.ar.length c'],S,rfl,hrep.mono (fun _ h=>h) fun p hp=>World.cell?_of_block ?_,fun b hb=> ?_⟩
   ·have:=hS _ hp
    exact(pw3.grown.block _ (by omega) (fun e=>by injection e with e;omega)).trans (hb7.block _ this.2)
   ·have:=hS b hb
    have:=hb6.size;omega
  |false=>
   refine cn 0 2 3 4 5 6 7 20 (Zt ?_);refine Cd.aY rfl rfl ?_;refine Zr ?_;refine Za ?_;refine cn 0 2 3 4 5 6 7 20 (aJ (aj ?_));refine Zm ?_;refine kL ?_;refine du 0 2 3 4 5 6 7 20 22 (Zt ?_);refine Cd.aY rfl (by simp) ?_;refine aj ?_;refine Zv (aa.build rfl rfl (mD _)) ?_;refine Zm ?_;refine Zm ?_;refine Zo 4 k2 ?_;intro w3 pw3;replace bel:=bel.put k2 pw3 e2;replace k5:=k5.put pw3 (by omega);replace k2:=pw3.ao;refine Za ?_;refine Za ?_;refine du 0 2 3 4 5 6 7 20 22 (Zt (Cd.ret (ab.af ?_)));refine ab.oa rfl rfl rfl rfl k2 Tryz.underlying71 rfl (m:=4) (by kernel_rfl) rfl (.inl rfl) ?_;rw[hps2,if_neg (by simp)];exact⟨bel, .agg #[.int .i64 0, .string (strOf []), .slice none 0 0, .slice none 0 0],fun _=>False,rfl,dR.zero _ _,fun b h=>h.elim⟩
 ·have hps2:cA l=(iZ,y,z):=by unfold cA;rw[if_pos (by rw[hz];exact hz0),hy,hz]
  refine Zm ?_;refine Zx ?_;refine Zx ?_;refine Za ?_;refine Za ?_;refine bp 0 2 3 4 5 6 7 (aJ (aj ?_));refine Zm ?_;refine Zv ((aa.fm rfl rfl rfl).kj (hz0)) ?_;refine Zm ?_;refine Seq.kJ rfl rfl rfl rfl rfl rfl ?_;refine Seq.kJ rfl rfl rfl rfl rfl rfl ?_;refine Seq.kJ rfl rfl rfl rfl rfl rfl ?_;refine Zv (aa.bX rfl rfl rfl) ?_;refine cn 0 2 3 4 5 6 7 20 (Zt ?_);refine Cd.aS rfl rfl ?_;refine Cd.skip (aJ (aj ?_));refine Zm ?_;refine kL ?_;refine du 0 2 3 4 5 6 7 20 22 (Zt ?_);refine Cd.aY rfl (by simpa using hz0) ?_;refine aj ?_;refine Zv (aa.build rfl rfl (mD _)) ?_;refine Zm ?_;refine Zm ?_;refine Zo 4 k2 ?_;intro w3 pw3;replace bel:=bel.put k2 pw3 e2;replace k2:=pw3.ao;refine Za ?_;refine Za ?_;refine du 0 2 3 4 5 6 7 20 22 (Zt (Cd.ret (ab.af ?_)));refine ab.oa rfl rfl rfl rfl k2 Tryz.underlying71 rfl (m:=4) (by kernel_rfl) rfl (.inl rfl) ?_;rw[hps2];exact⟨bel, .agg #[.int .i64 0, .string (strOf []), .slice none 0 0, .slice none 0 0],fun _=>False,rfl,dR.zero _ _,fun b h=>h.elim⟩
def EA (gt:Nat)(W0:World)(x:Ex)(W:World):Prop:=∃(S:Nat→Prop) (v:Value),aH W gt 105 v.cells∧cr W S x v∧∀b,S b→W0.heap.size≤b∧b<W.heap.size
theorem uX (K:Ctx)(hK:K.Ok)(n gt h:Nat)(W:World)(pw:PW K W 0 0 false)(kt:aH W gt 105 #[.int .i64 0, .int .i64 0, .string {data:= #[]}, .slice none 0 0]) (hg:gt<K.g) (hh:h≤gt) (hKA:∀ad,K.A=some ad→ad.block≠gt) (hne:(bM K.ws n).E 0 0 0≠ .out):
  Calls Tryz.prog 150 #[.pointer (some ⟨K.g,0,none⟩), .pointer (some ⟨gt,0,none⟩)] W (EB K h W ((bM K.ws n).E 0 0 0) (EA gt W)):=by
 have hcl:=(xL K hK n n (Nat.le_refl _)).2 0 (by omega) 0 0 W pw hne;have hlt:=pw.ao.lt;have hle:=hK.le;have bel:=Below.refl W.heap.size W;refine Zs 5 Tryz.func150 ?_;refine Zr ?_;refine Zm ?_;rcases Rs.de hne with ⟨q,ov,hr⟩|⟨x,q,hr⟩
 ·rw[hr] at hcl⊢
  refine Seq.cw (Ze Tryz.func151) rfl hcl ?_;rintro e w6 ⟨hf,rfl,d6,hp6⟩;refine⟨_,rfl,fun a ha=>⟨ha.defers,?_⟩⟩;exact⟨hf,rfl,d6,hp6⟩
 rw[hr] at hcl⊢;refine Zc (Ze Tryz.func151) (hcl) ?_;rintro e wq ⟨hf,v,rfl,pwq,S,hrep,hS⟩;refine⟨_,rfl,?_⟩;have kp0:=(Kp.refl W).fz pw.ao hf;have k98:=kt.fz hf (by omega);have hs98:=k98.lt;have k98':=k98;obtain⟨A,c,rfl⟩:=hrep.form;have hq:=pwq.ao.lt;clear bel;have bel:=Below.refl wq.heap.size wq;refine Zo 4 k98 ?_;intro w1 pw1;replace k98:=pw1.ao;refine dM 0 1 ?_;refine ab.eP rfl (.inr rfl) ?_;have hsz:=pw1.size;have hbl:∀k,k≠gt→k<wq.heap.size→w1.heap[k]? =wq.heap[k]? :=fun k hk hl=>pw1.grown.block k hl (fun e=>hk (by injection e))
 have hrd:Reads w1 K.B 4 K.A K.ws.length (fB K.ws):=⟨pwq.rd.1,fun h0=>by
  obtain⟨ad,e1,e2,e3⟩:=pwq.rd.2 h0;exact⟨ad,e1,e2,fun j u hu=>(World.cell?_of_block (by rw[ag];exact hbl _ (hKA ad e1) (by omega))).trans (e3 j u hu)⟩⟩
 have k98z:aH w1 gt 105 (Value.agg #[Value.int .i64 x.op,Value.int .i64 x.n,Value.string (strOf x.name),Value.slice A x.args.length c]).cells:=k98;have kgz:aH w1 K.g 219 _:=pwq.ao.put pw1 (by omega);exact⟨⟨pw1.grown.os.trans hf.os,pw1.grown.tape.trans hf.tape,pw1.grown.output.trans hf.output,by have:=hf.size;omega,fun k hk hne=>(hbl k (by omega) (by omega)).trans (hf.block k (by omega) hne)⟩,kp0.put k98' pw1 trivial,⟨_,rfl⟩,⟨kgz,hrd,pwq.dy,pwq.dP⟩,S,_,k98z,hrep.mono (fun _ h=>h) (fun a ha=>World.cell?_of_block (hbl _ (by have:=(hS _ ha).1;have:=kt.lt;omega) (hS _ ha).2)),fun b hb=>⟨(hS b hb).1,by have:=(hS b hb).2;omega⟩⟩
def gh (l:List Nat):Ex × Nat × Int:=if(cO l (lM (bb l).1)).2≠0 then(mj,(cO l (lM (bb l).1)).1,(cO l (lM (bb l).1)).2) else match lM (bb l).1 with
 | .ok x _=>if dc x=true then(x,0,0) else(mj,0,13)
 |_=>(mj,0,0)
theorem EA.kept {gt:Nat}{w W0 W W':World}{a:Ex}{g:Nat}(h:EA gt W0 a W)(hgt:gt<w.heap.size)(h2:w.heap.size≤g)(h3:g<W0.heap.size)(h4:W0.heap.size≤W.heap.size)(h5:W.heap.size≤W'.heap.size)(h6:∀k,k<W.heap.size→k≠g→W'.heap[k]? =W.heap[k]?):EA gt w a W':=by
 obtain⟨S,v,h7,h8,h9⟩:=h;refine⟨S,v,?_,h8.mono (fun _ h=>h) (fun p hp=>World.cell?_of_block (h6 _ (h9 _ hp).2 (by have:=(h9 _ hp).1;omega))),fun b hb=>⟨by have:=(h9 b hb).1;omega,by have:=(h9 b hb).2;omega⟩⟩;unfold aH at h7⊢;rw[h6 gt (by omega) (by omega)];exact h7
theorem rA (l:List Nat)(w:World)(hl:∀x∈l,x<256)(hlen:l.length≤9223372036854775807):
  Calls Tryz.prog 115 #[.string (strOf l)] w fun e w'=>Below w.heap.size w w'∧∃(v:Value) (S:Nat→Prop),e= .returned (.tuple #[v, .int .i64 ((gh l).2.1:Int), .int .i64 (gh l).2.2])∧cr w' S (gh l).1 v∧∀b,S b→w.heap.size≤b∧b<w'.heap.size:=by
 have bel:=Below.refl w.heap.size w;refine Zs 27 Tryz.func115 ?_;refine aj ?_;refine Zl aw ?_;intro g2 w1 n2;have e2:=Nat.le_trans bel.size n2.ge;replace bel:=bel.step n2.below;have k2:=n2.ao;refine Za ?_;refine Za ?_;refine aZ 0 2 3 4 (aB ?_);refine Zl aw ?_;intro g5 w2 n5;have e5:=Nat.le_trans bel.size n5.ge;have l5:=Nat.lt_of_lt_of_le k2.lt n5.ge;replace bel:=bel.step n5.below;replace k2:=k2.step n5.below;have k5:=n5.ao;refine aU 0 2 3 4 5 (aB ?_);refine Zm ?_;refine Zv (aa.makeFunc (v:= .func (.func 150) #[] #[.pointer (some ⟨g5,0,none⟩)]) rfl (show gR _ _=some [] from rfl) (show gR _ _=some [.pointer (some ⟨g5,0,none⟩)] from rfl) rfl) ?_;have hg5:=k5.lt
 have hps:=qX l hl hlen 150 [.pointer (some ⟨g5,0,none⟩)] g5 (lM (bb l).1) (EA g5) (EA g5 w2) w2 (Nat.le_of_lt hg5) (fun args w=>aO Tryz.func150 (by kernel_rfl) rfl args w) (uS _)
  (fun a W0 W W' g h1 h2 h3 h4 h5 h6=>h1.kept hg5 h2 h3 h4 h5 h6)
  (fun K hK hw h2 hg hA W hb hp=>by
   have:=uX K hK ((bb l).1.length+1) g5 g5 W hp (k5.step hb) (by omega) (Nat.le_refl _) (fun ad ha=>by have:=hA ad ha;omega) (by rw[hw];exact uS _);rw[hw] at this;exact this)
 refine Zc (Ze Tryz.func126) (hps) ?_;rintro e w6 ⟨hb6,kp6,rfl,hok⟩;refine⟨_,rfl,?_⟩;have bel6:Below w.heap.size w w6:=bel.trans (hb6.mono e5);have k2':aH w6 g2 105 _:=(show w6.heap[g2]? =w2.heap[g2]? from hb6.block g2 l5).trans k2;have hlt6:=bel6.size;clear bel k5 k2;have bel:=bel6;have k2:=k2';have hA:=pA (l:=l) (r:=lM (bb l).1);obtain⟨z,hz⟩:∃z,(cO l (lM (bb l).1)).2=z:=⟨_,rfl⟩;obtain⟨y,hy⟩:∃y,(cO l (lM (bb l).1)).1=y:=⟨_,rfl⟩;rw[hz] at hok hA⊢;rw[hy] at hA⊢
 by_cases hz0:z=0
 ·obtain⟨x,q,hx,S,v,k5,hrep,hS⟩:=hok hz0
  have hps2:gh l=if dc x=true then(x,0,0) else(mj,0,13):=by unfold gh;rw[if_neg (by rw[hz];exact fun h=>h hz0),hx]
  obtain rfl:=hA hz0;subst hz0;have hrb:lE w6 w6.heap.size x v:=hrep.mono (fun b hb=>(hS b hb).2) (fun _ _=>rfl);obtain⟨A,c,rfl⟩:=hrep.form;have hri:=rm x w6.heap.size _ w6 hrb (Nat.le_refl _);have k5:aH w6 g5 105 #[.int .i64 x.op, .int .i64 x.n, .string (strOf x.name), .slice A x.args.length c]:=k5;have hri:Calls Tryz.prog 136 #[_] w6 fun en w'=>en= .returned (.bool (dc x))∧Grow w6 w':=hri
  generalize dc x=b at *
  refine Zm ?_;refine Zx ?_;refine Zx ?_;refine Za ?_;refine Za ?_;refine bp 0 2 3 4 5 6 7 (aJ (aj ?_));refine Zm ?_;refine Zv ((aa.fm rfl rfl rfl).lI (rfl)) ?_;refine Zm ?_;refine Seq.aC (aa.dr rfl rfl Tryz.underlying105 rfl k5 (m:=4) (by kernel_rfl) rfl) rfl rfl rfl rfl rfl ?_;refine Seq.kE (Ze Tryz.func136) rfl rfl rfl rfl rfl (hri) ?_;rintro e w7 ⟨rfl,hb7⟩;refine⟨_,rfl,?_⟩;replace bel:=bel.step hb7;replace k2:=k2.step hb7;replace k5:=k5.step hb7;refine Seq.aC (aa.not rfl rfl) rfl rfl rfl rfl rfl ?_;refine Zv (aa.bZ rfl rfl rfl) ?_;have hw67:=hb7.size
  cases b with
  |true=>
   refine cn 0 2 3 4 5 6 7 20 (Zt ?_);refine Cd.aS rfl rfl ?_;refine Cd.skip (aJ (aj ?_));refine Zm ?_;refine kL ?_;refine du 0 2 3 4 5 6 7 20 22 (Zt ?_);refine Cd.aS rfl (by simp) ?_;refine Cd.skip (aB ?_);refine ZW 4 Tryz.underlying105 k5 ?_;refine Zo 4 k2 ?_;intro w3 pw3;replace bel:=bel.put k2 pw3 e2;replace k5:=k5.put pw3 (by omega);replace k2:=pw3.ao;refine Za ?_;refine Za ?_;refine du 0 2 3 4 5 6 7 20 22 (Zt (Cd.ret ?_));refine ab.oa rfl rfl rfl rfl k2 Tryz.underlying105 rfl (m:=4) (by kernel_rfl) rfl (.inl rfl) ?_;rw[hps2,if_pos rfl];have hsz:=pw3.size;refine⟨bel, .agg #[.int .i64 x.op, .int .i64 x.n, .string (strOf x.name), .slice A x.args.length c],S,rfl,hrep.mono (fun _ h=>h) fun p hp=>World.cell?_of_block ?_,fun b hb=> ?_⟩
   ·have:=hS _ hp
    exact(pw3.grown.block _ (by omega) (fun e=>by injection e with e;omega)).trans (hb7.block _ this.2)
   ·have:=hS b hb
    have:=hb6.size;omega
  |false=>
   refine cn 0 2 3 4 5 6 7 20 (Zt ?_);refine Cd.aY rfl rfl ?_;refine Zr ?_;refine Za ?_;refine cn 0 2 3 4 5 6 7 20 (aJ (aj ?_));refine Zm ?_;refine kL ?_;refine du 0 2 3 4 5 6 7 20 22 (Zt ?_);refine Cd.aY rfl (by simp) ?_;refine aj ?_;refine Zv (aa.build rfl rfl (mB _)) ?_;refine Zm ?_;refine Zm ?_;refine Zo 4 k2 ?_;intro w3 pw3;replace bel:=bel.put k2 pw3 e2;replace k5:=k5.put pw3 (by omega);replace k2:=pw3.ao;refine Za ?_;refine Za ?_;refine du 0 2 3 4 5 6 7 20 22 (Zt (Cd.ret (ab.af ?_)));refine ab.oa rfl rfl rfl rfl k2 Tryz.underlying105 rfl (m:=4) (by kernel_rfl) rfl (.inl rfl) ?_;rw[hps2,if_neg (by simp)];exact⟨bel, .agg #[.int .i64 0, .int .i64 0, .string (strOf []), .slice none 0 0],fun _=>False,rfl,cr.zero _ _,fun b h=>h.elim⟩
 ·have hps2:gh l=(mj,y,z):=by unfold gh;rw[if_pos (by rw[hz];exact hz0),hy,hz]
  refine Zm ?_;refine Zx ?_;refine Zx ?_;refine Za ?_;refine Za ?_;refine bp 0 2 3 4 5 6 7 (aJ (aj ?_));refine Zm ?_;refine Zv ((aa.fm rfl rfl rfl).kj (hz0)) ?_;refine Zm ?_;refine Seq.kJ rfl rfl rfl rfl rfl rfl ?_;refine Seq.kJ rfl rfl rfl rfl rfl rfl ?_;refine Seq.kJ rfl rfl rfl rfl rfl rfl ?_;refine Zv (aa.bX rfl rfl rfl) ?_;refine cn 0 2 3 4 5 6 7 20 (Zt ?_);refine Cd.aS rfl rfl ?_;refine Cd.skip (aJ (aj ?_));refine Zm ?_;refine kL ?_;refine du 0 2 3 4 5 6 7 20 22 (Zt ?_);refine Cd.aY rfl (by simpa using hz0) ?_;refine aj ?_;refine Zv (aa.build rfl rfl (mB _)) ?_;refine Zm ?_;refine Zm ?_;refine Zo 4 k2 ?_;intro w3 pw3;replace bel:=bel.put k2 pw3 e2;replace k2:=pw3.ao;refine Za ?_;refine Za ?_;refine du 0 2 3 4 5 6 7 20 22 (Zt (Cd.ret (ab.af ?_)));refine ab.oa rfl rfl rfl rfl k2 Tryz.underlying105 rfl (m:=4) (by kernel_rfl) rfl (.inl rfl) ?_;rw[hps2];exact⟨bel, .agg #[.int .i64 0, .int .i64 0, .string (strOf []), .slice none 0 0],fun _=>False,rfl,cr.zero _ _,fun b h=>h.elim⟩
def lU (c:Nat):Prop:=c≠32∧c≠9∧c≠10∧c≠35
theorem gq:∀(l:List Nat) (b:Bool) (c:Nat),l[dY l b]? =some c→lU c
 | [],b,c,h=>by simp at h
 |d::l,true,c,h=>by
  rw[vJ] at h;split at h
  ·exact gq l false c (by simpa using h)
  ·exact gq l true c (by simpa using h)
 |d::l,false,c,h=>by
  rw[qK] at h
  by_cases hb:jI d=true
  ·rw[if_pos hb] at h
   exact gq l false c (by simpa using h)
  ·rw[if_neg hb] at h
   by_cases h35:d=35
   ·rw[if_pos h35] at h
    exact gq l true c (by simpa using h)
   ·rw[if_neg h35] at h
    simp at h;subst h;unfold jI at hb;simp at hb;exact⟨hb.1.1,hb.1.2,hb.2,h35⟩
theorem xl {l:List Nat}{q c:Nat}(h:l[q+cH (l.drop q)]? =some c):lU c:=
 gq (l.drop q) false c (by rw[List.getElem?_drop];exact h)
theorem vx (l:List Nat):∀f p,(∀c,l[p]? =some c→lU c)→(∀x∈(iu f l p).1,∃c,l[x.pos]? =some c∧lU c)∧∀q,(iu f l p).2=some q→∃c,l[q]? =some c∧lU c
 |0,p,_=>⟨fun x h=>by simp[iu] at h,fun q h=>by simp[iu] at h⟩
 |f+1,p,hp=>by
  rcases Nat.lt_or_ge p l.length with hlt|hge
  ·have hc:l[p]? =some l[p]:=List.getElem?_eq_getElem hlt
   rw[lp f l p hlt]
   cases hn:kM (l.drop p) with
   |none=>
    exact⟨fun x h=>by simp at h,fun q h=>by injection h with h;subst h;exact⟨_,hc,hp _ hc⟩⟩
   |some z=>
    obtain⟨k,t,n⟩:=z;obtain⟨h1,h2⟩:=vx l f (p+t.length+cH (l.drop (p+t.length))) (fun c h=>xl h);refine⟨fun x h=> ?_,h2⟩;rcases List.mem_cons.1 h with rfl|h
    ·exact⟨_,hc,hp _ hc⟩
    ·exact h1 x h
  ·rw[m0 _ _ _ hge]
   exact⟨fun x h=>by simp at h,fun q h=>by simp at h⟩
theorem pP (l:List Nat):(∀x∈(bb l).1,∃c,l[x.pos]? =some c∧lU c)∧∀q,(bb l).2=some q→∃c,l[q]? =some c∧lU c:=
 vx l (l.length+1) (cH l) fun c h=>gq l false c h
theorem sj (l:List Nat)(p:Nat):endPos l p=l.length∨∃c,l[endPos l p]? =some c∧lU c:=by
 unfold endPos;rw[List.getD_eq_getElem?_getD]
 cases h:(bb l).1[p]? with
 |none=>exact .inl rfl
 |some x=>exact .inr ((pP l).1 x (List.mem_of_getElem? h))
theorem AO {α:Type}(l:List Nat)(r:Rs α):(cO l r=(0,0)∧l.length≤4000)∨(cO l r=(0,4)∧4000<l.length)∨(cO l r=(0,13)∧l.length≤4000)∨
  ∃p,cO l r=(p,11)∧l.length≤4000∧(p=l.length∨∃c,l[p]? =some c∧lU c):=by
 unfold cO
 by_cases h4:4000<l.length
 ·rw[if_pos h4];exact .inr (.inl ⟨rfl,h4⟩)
 ·rw[if_neg h4]
  have h4':l.length≤4000:=by omega
  cases h2:(bb l).2 with
  |some p=>exact .inr (.inr (.inr ⟨p,rfl,h4', .inr ((pP l).2 p h2)⟩))
  |none=>
   cases r with
   |out=>exact .inl ⟨rfl,h4'⟩
   |bad p ov=>
    cases ov with
    |true=>exact .inr (.inr (.inl ⟨rfl,h4'⟩))
    |false=>exact .inr (.inr (.inr ⟨_,rfl,h4',sj l p⟩))
   |ok a p=>
    dsimp only
    by_cases h3:p=(bb l).1.length
    ·rw[if_pos h3];exact .inl ⟨rfl,h4'⟩
    ·rw[if_neg h3];exact .inr (.inr (.inr ⟨_,rfl,h4',sj l p⟩))
theorem yp (l:List Nat):(∃t,cA l=(t,0,0)∧bV t=true∧l.length≤4000)∨(cA l=(iZ,0,4)∧4000<l.length)∨(cA l=(iZ,0,13)∧l.length≤4000)∨
  ∃p,cA l=(iZ,p,11)∧l.length≤4000∧(p=l.length∨∃c,l[p]? =some c∧lU c):=by
 unfold cA;rcases AO l (jZ (bb l).1) with ⟨h,h4⟩|⟨h,h4⟩|⟨h,h4⟩|⟨p,h,h4,hp⟩
 ·rw[h,if_neg (by simp)]
  have hz:∀(z:Tm × Nat × Int),True:=fun _=>trivial
  cases hr:jZ (bb l).1 with
  |out=>exact absurd hr (rj _)
  |bad p ov=>
   exfalso;rw[hr] at h;unfold cO at h;rw[if_neg (by omega)] at h
   cases h2:(bb l).2 with
   |some p=>rw[h2] at h;cases h
   |none=>rw[h2] at h;cases ov<;>simp at h
  |ok x q=>
   dsimp only
   by_cases hx:bV x=true
   ·rw[if_pos hx];exact .inl ⟨x,rfl,hx,h4⟩
   ·rw[if_neg hx];exact .inr (.inr (.inl ⟨rfl,h4⟩))
 ·rw[h,if_pos (by simp)];exact .inr (.inl ⟨rfl,h4⟩)
 ·rw[h,if_pos (by simp)];exact .inr (.inr (.inl ⟨rfl,h4⟩))
 ·rw[h,if_pos (by simp)];exact .inr (.inr (.inr ⟨p,rfl,h4,hp⟩))
section
variable {α β:Type} {ws:List Wd} {j:Nat}
end
section
variable {α β:Type} {ws:List Wd}
end
section
variable {α:Type} {lE:World→(Nat→Prop)→α→Value→Prop} {K:Ctx} {w1 w w6:World} {p:Nat} {o:Int} {dp bd:Bool} {pf:α→Nat→Int→Bool→Bool→Prop} {S:Nat→Bool} {x x6:α} {S' S6:Nat→Prop} {v v6:Value} {g7:Nat} {zt:TypeId}
end
section
variable {K:Ctx} {w1 w w6:World} {p:Nat} {o:Int} {dp bd:Bool} {S:Nat→Bool} {S':Nat→Prop} {v:Value} {g7 g8:Nat} {zt:TypeId} {n:Nat}
end
section
variable {α:Type} {ws:List Wd}
end
section
variable {α β:Type} {r:Rs α} {d p:Nat} {x:α} {o:Int} {dp bd:Bool}
end
section
variable {β:Type}
variable {p0 q d:Nat} {R:Rs β} {o:Int} {dp bd:Bool}
end
structure zm (lo hi:Nat)(S:Nat→Prop)(x:Tm)(v:Value)(W:World):Prop where
 rep:dR W S x v
 bd:∀b,S b→lo≤b∧b<hi
 eV:hi≤W.heap.size
theorem zm.step {lo hi:Nat}{S:Nat→Prop}{x:Tm}{v:Value}{W W':World}(r:zm lo hi S x v W)(h:Below W.heap.size W W'):zm lo hi S x v W':=
 ⟨r.rep.mono (fun _ h=>h) (fun a ha=>h.cell (Nat.lt_of_lt_of_le (r.bd _ ha).2 r.eV)),r.bd,Nat.le_trans r.eV h.size⟩
theorem zm.put {lo hi g:Nat}{T:TypeId}{cur cs:Array Value}{S:Nat→Prop}{x:Tm}{v:Value}{W W':World}(r:zm lo hi S x v W)(_k:aH W g T cur)(p:hZ W W' g T cs){E:Prop}(_e:E)(hne:g<lo∨hi≤g:=by omega):zm lo hi S x v W':=
 ⟨r.rep.mono (fun _ h=>h) (fun a ha=>World.cell?_of_block (p.grown.block _ (Nat.lt_of_lt_of_le (r.bd _ ha).2 r.eV) (fun e=>by injection e with e;have:=r.bd _ ha;omega))),r.bd,Nat.le_trans r.eV (Nat.le_of_eq p.size.symm)⟩
open Go.ChangeShapes Go.WideShapes Go.Deep Go.RowKit
set_option maxRecDepth 100000 in
theorem open_int {W:World}{base t:Nat}{v:Value}{k:IntKind}(hu:Tryz.prog.underlying t=some (.int k))(hv:Value.okWide Tryz.prog W .any base t v):∃n,v= .int k n∧k.has n:=by
 obtain⟨n,rfl⟩:=okWide_int hu hv;simp only[Value.okWide,hu,Cell.okWide] at hv;exact⟨n,rfl,by simpa[Cell.ok,hu] using hv⟩
set_option maxRecDepth 100000 in
theorem Ca {W:World}{base t:Nat}{v:Value}(hu:Tryz.prog.underlying t=some (.int .i64))(hv:Value.okWide Tryz.prog W .any base t v):∃n,v= .int .i64 n∧bw n:=by
 obtain⟨n,rfl,h⟩:=open_int hu hv;exact⟨n,rfl,h.1,h.2⟩
set_option maxRecDepth 100000 in
theorem Du {W:World}{base t:Nat}{v:Value}(hu:Tryz.prog.underlying t=some (.int .u8))(hv:Value.okWide Tryz.prog W .any base t v):∃n:Nat,v= .int .u8 (n:Int)∧n<256:=by
 obtain⟨n,rfl,h0,h1⟩:=open_int hu hv;have h2:(0:Int)≤n:=h0;have h3:n≤255:=h1;exact⟨n.toNat,by rw[Int.toNat_of_nonneg h2],by omega⟩
structure Ev where
 kind:Int
 id:List Nat
 a:List Nat
 b:List Nat
 text:List Nat
 day:Int
 at_:Int
 gH:Int
 n:Int
deriving DecidableEq
def Ev.v (e:Ev):Value:= .agg #[.int .i64 e.kind, .string (strOf e.id), .string (strOf e.a), .string (strOf e.b), .string (strOf e.text), .int .i64 e.day, .int .i64 e.at_, .int .i64 e.gH, .int .i64 e.n]
structure Ev.kh (e:Ev):Prop where
 kind:bw e.kind
 id:∀x∈e.id,x<256
 a:∀x∈e.a,x<256
 b:∀x∈e.b,x<256
 text:∀x∈e.text,x<256
 day:bw e.day
 at_:bw e.at_
 gH:bw e.gH
 n:bw e.n
 Fk:e.id.length≤9223372036854775807
 la:e.a.length≤9223372036854775807
 lb:e.b.length≤9223372036854775807
 pS:e.text.length≤9223372036854775807
theorem nJ:bz Tryz.prog 29=some (some (.agg #[.int .i64 0, .string {data:= #[]}, .string {data:= #[]}, .string {data:= #[]}, .string {data:= #[]}, .int .i64 0, .int .i64 0, .int .i64 0, .int .i64 0])):=by kernel_rfl
def Ev.same (a b:Ev):Bool:=a.kind==b.kind&&((strOf a.id).toList==(strOf b.id).toList&&((strOf a.a).toList==(strOf b.a).toList&&((strOf a.b).toList==(strOf b.b).toList&&((strOf a.text).toList==(strOf b.text).toList&&(a.day==b.day&&(a.at_==b.at_&&(a.gH==b.gH&&a.n==b.n)))))))
set_option maxRecDepth 100000 in
theorem wV (a b:Ev)(w:World):(binOp .neq 29 a.v b.v).run Tryz.prog w= .ok (.bool (!(a.same b))) w:=by
 have hu:=Tryz.underlying29;unfold Ev.same Ev.v
 go_simp
 repeat' split
 all_goals simp_all
theorem CR {a b:Ev}(ha:a.kh)(hb:b.kh):a.same b=decide (a=b):=by
 unfold Ev.same;rw[hU ha.id hb.id,hU ha.a hb.a,hU ha.b hb.b,hU ha.text hb.text,Bool.eq_iff_iff]
 cases a
 cases b
 simp
theorem vF (op:BinOp)(x y:Operand)(a b:Array Value)(w:World):(eqGuard op 29 x y (.agg a) (.agg b)).run Tryz.prog w= .ok () w:=by
 have h:Tryz.prog.eqGuardType Tryz.prog.depth 29=false:=by kernel_rfl
 cases op<;>simp[eqGuard,program,h,Sem.run_bind,Sem.run]
def jD (e:Ev):Ev:=
 if e.kind=1 then {e with id:=[],a:=[],b:=[],text:=[],day:=0}
 else if e.kind=2 then {e with day:=0}
 else if e.kind=3 then {e with a:=[],day:=0,n:=0}
 else if e.kind=4 then {e with id:=[],a:=[],at_:=0,gH:=0}
 else if e.kind=5 then {e with id:=[],a:=[],b:=[]}
 else if e.kind=6 then {e with id:=[],a:=[]}
 else if e.kind=7 then {e with id:=[]}
 else e
set_option maxHeartbeats 2000000 in
theorem BB (e:Ev)(w:World):Calls Tryz.prog 34 #[e.v] w fun en w'=>en= .returned (jD e).v∧Grow w w':=by
 have bel:=Below.refl w.heap.size w;unfold Ev.v jD;refine Zs 39 Tryz.func34 ?_;refine aj ?_;refine Seq.box rfl rfl rfl rfl rfl ?_;intro g1 w1 n1;have e1:=Nat.le_trans bel.size n1.ge;replace bel:=bel.step n1.below;have k1:=n1.ao;refine Zl nJ ?_;intro g2 w2 n2;have e2:=Nat.le_trans bel.size n2.ge;have l2:=Nat.lt_of_lt_of_le k1.lt n2.ge;replace bel:=bel.step n2.below;replace k1:=k1.step n2.below;have k2:=n2.ao;refine bu 0 1 2 (aJ (aj ?_));refine Zf 0 Tryz.underlying29 ?_;refine ZL Tryz.underlying3 k1 ?_;refine aZ 0 1 2 4 (Zt (Cd.block (aj ?_)));refine bq ?_;refine Za ?_;refine aU 0 1 2 4 5 (Zt ?_);refine Cd.au rfl (fun h1=> ?_) (fun h1=> ?_)
 ·skip
  refine Zr ?_;refine Zf 1 Tryz.underlying29 ?_;refine Zq k1 ?_;intro w3 pw3;replace bel:=bel.put k1 pw3 e1;replace k2:=k2.put pw3 (by omega);replace k1:=pw3.ao;refine Zf 2 Tryz.underlying29 ?_;refine Zq k1 ?_;intro w4 pw4;replace bel:=bel.put k1 pw4 e1;replace k2:=k2.put pw4 (by omega);replace k1:=pw4.ao;refine Zf 3 Tryz.underlying29 ?_;refine Zq k1 ?_;intro w5 pw5;replace bel:=bel.put k1 pw5 e1;replace k2:=k2.put pw5 (by omega);replace k1:=pw5.ao;refine Zf 4 Tryz.underlying29 ?_;refine Zq k1 ?_;intro w6 pw6;replace bel:=bel.put k1 pw6 e1;replace k2:=k2.put pw6 (by omega);replace k1:=pw6.ao;refine Zf 5 Tryz.underlying29 ?_;refine Zq k1 ?_;intro w7 pw7;replace bel:=bel.put k1 pw7 e1;replace k2:=k2.put pw7 (by omega);replace k1:=pw7.ao;refine aU 0 1 2 4 5 (ab.ai (aB ?_));refine ZW 9 Tryz.underlying29 k1 ?_;refine Zo 9 k2 ?_;intro w8 pw8;replace bel:=bel.put k2 pw8 e2;replace k1:=k1.put pw8 (by omega);replace k2:=pw8.ao;refine aU 0 1 2 4 5 (Zt (Cd.ret ?_));refine jU 9 k2 Tryz.underlying29 ?_;rw[if_pos h1];exact⟨rfl,bel⟩
 refine aj ?_;refine bq ?_;refine Za ?_;refine bl 0 1 2 4 5 12 (Zt ?_);refine Cd.au rfl (fun h2=> ?_) (fun h2=> ?_)
 ·skip
  refine Zr ?_;refine Zf 5 Tryz.underlying29 ?_;refine Zq k1 ?_;intro w3 pw3;replace bel:=bel.put k1 pw3 e1;replace k2:=k2.put pw3 (by omega);replace k1:=pw3.ao;refine bl 0 1 2 4 5 12 (ab.ai (aB ?_));refine ZW 9 Tryz.underlying29 k1 ?_;refine Zo 9 k2 ?_;intro w4 pw4;replace bel:=bel.put k2 pw4 e2;replace k1:=k1.put pw4 (by omega);replace k2:=pw4.ao;refine bl 0 1 2 4 5 12 (Zt (Cd.ret ?_));refine jU 9 k2 Tryz.underlying29 ?_;rw[if_neg h1];rw[if_pos h2];exact⟨rfl,bel⟩
 refine aj ?_;refine bq ?_;refine Za ?_;refine bp 0 1 2 4 5 12 15 (Zt ?_);refine Cd.au rfl (fun h3=> ?_) (fun h3=> ?_)
 ·skip
  refine Zr ?_;refine Zf 2 Tryz.underlying29 ?_;refine Zq k1 ?_;intro w3 pw3;replace bel:=bel.put k1 pw3 e1;replace k2:=k2.put pw3 (by omega);replace k1:=pw3.ao;refine Zf 5 Tryz.underlying29 ?_;refine Zq k1 ?_;intro w4 pw4;replace bel:=bel.put k1 pw4 e1;replace k2:=k2.put pw4 (by omega);replace k1:=pw4.ao;refine Zf 8 Tryz.underlying29 ?_;refine Zq k1 ?_;intro w5 pw5;replace bel:=bel.put k1 pw5 e1;replace k2:=k2.put pw5 (by omega);replace k1:=pw5.ao;refine bp 0 1 2 4 5 12 15 (ab.ai (aB ?_));refine ZW 9 Tryz.underlying29 k1 ?_;refine Zo 9 k2 ?_;intro w6 pw6;replace bel:=bel.put k2 pw6 e2;replace k1:=k1.put pw6 (by omega);replace k2:=pw6.ao;refine bp 0 1 2 4 5 12 15 (Zt (Cd.ret ?_));refine jU 9 k2 Tryz.underlying29 ?_;rw[if_neg h1];rw[if_neg h2];rw[if_pos h3];exact⟨rfl,bel⟩
 refine aj ?_;refine bq ?_;refine Za ?_;refine cn 0 1 2 4 5 12 15 20 (Zt ?_);refine Cd.au rfl (fun h4=> ?_) (fun h4=> ?_)
 ·skip
  refine Zr ?_;refine Zf 1 Tryz.underlying29 ?_;refine Zq k1 ?_;intro w3 pw3;replace bel:=bel.put k1 pw3 e1;replace k2:=k2.put pw3 (by omega);replace k1:=pw3.ao;refine Zf 2 Tryz.underlying29 ?_;refine Zq k1 ?_;intro w4 pw4;replace bel:=bel.put k1 pw4 e1;replace k2:=k2.put pw4 (by omega);replace k1:=pw4.ao;refine Zf 6 Tryz.underlying29 ?_;refine Zq k1 ?_;intro w5 pw5;replace bel:=bel.put k1 pw5 e1;replace k2:=k2.put pw5 (by omega);replace k1:=pw5.ao;refine Zf 7 Tryz.underlying29 ?_;refine Zq k1 ?_;intro w6 pw6;replace bel:=bel.put k1 pw6 e1;replace k2:=k2.put pw6 (by omega);replace k1:=pw6.ao;refine cn 0 1 2 4 5 12 15 20 (ab.ai (aB ?_));refine ZW 9 Tryz.underlying29 k1 ?_;refine Zo 9 k2 ?_;intro w7 pw7;replace bel:=bel.put k2 pw7 e2;replace k1:=k1.put pw7 (by omega);replace k2:=pw7.ao;refine cn 0 1 2 4 5 12 15 20 (Zt (Cd.ret ?_));refine jU 9 k2 Tryz.underlying29 ?_;rw[if_neg h1];rw[if_neg h2];rw[if_neg h3];rw[if_pos h4];exact⟨rfl,bel⟩
 refine aj ?_;refine bq ?_;refine Za ?_;refine du 0 1 2 4 5 12 15 20 26 (Zt ?_);refine Cd.au rfl (fun h5=> ?_) (fun h5=> ?_)
 ·skip
  refine Zr ?_;refine Zf 1 Tryz.underlying29 ?_;refine Zq k1 ?_;intro w3 pw3;replace bel:=bel.put k1 pw3 e1;replace k2:=k2.put pw3 (by omega);replace k1:=pw3.ao;refine Zf 2 Tryz.underlying29 ?_;refine Zq k1 ?_;intro w4 pw4;replace bel:=bel.put k1 pw4 e1;replace k2:=k2.put pw4 (by omega);replace k1:=pw4.ao;refine Zf 3 Tryz.underlying29 ?_;refine Zq k1 ?_;intro w5 pw5;replace bel:=bel.put k1 pw5 e1;replace k2:=k2.put pw5 (by omega);replace k1:=pw5.ao;refine du 0 1 2 4 5 12 15 20 26 (ab.ai (aB ?_));refine ZW 9 Tryz.underlying29 k1 ?_;refine Zo 9 k2 ?_;intro w6 pw6;replace bel:=bel.put k2 pw6 e2;replace k1:=k1.put pw6 (by omega);replace k2:=pw6.ao;refine du 0 1 2 4 5 12 15 20 26 (Zt (Cd.ret ?_));refine jU 9 k2 Tryz.underlying29 ?_;rw[if_neg h1];rw[if_neg h2];rw[if_neg h3];rw[if_neg h4];rw[if_pos h5];exact⟨rfl,bel⟩
 refine aj ?_;refine bq ?_;refine Za ?_;refine ed 0 1 2 4 5 12 15 20 26 31 (Zt ?_);refine Cd.au rfl (fun h6=> ?_) (fun h6=> ?_)
 ·skip
  refine Zr ?_;refine Zf 1 Tryz.underlying29 ?_;refine Zq k1 ?_;intro w3 pw3;replace bel:=bel.put k1 pw3 e1;replace k2:=k2.put pw3 (by omega);replace k1:=pw3.ao;refine Zf 2 Tryz.underlying29 ?_;refine Zq k1 ?_;intro w4 pw4;replace bel:=bel.put k1 pw4 e1;replace k2:=k2.put pw4 (by omega);replace k1:=pw4.ao;refine ed 0 1 2 4 5 12 15 20 26 31 (ab.ai (aB ?_));refine ZW 9 Tryz.underlying29 k1 ?_;refine Zo 9 k2 ?_;intro w5 pw5;replace bel:=bel.put k2 pw5 e2;replace k1:=k1.put pw5 (by omega);replace k2:=pw5.ao;refine ed 0 1 2 4 5 12 15 20 26 31 (Zt (Cd.ret ?_));refine jU 9 k2 Tryz.underlying29 ?_;rw[if_neg h1];rw[if_neg h2];rw[if_neg h3];rw[if_neg h4];rw[if_neg h5];rw[if_pos h6];exact⟨rfl,bel⟩
 refine aj ?_;refine bq ?_;refine Za ?_;refine bT 0 1 2 4 5 12 15 20 26 31 35 (Zt ?_);refine Cd.au rfl (fun h7=> ?_) (fun h7=> ?_)
 ·skip
  refine Zr ?_;refine Zf 1 Tryz.underlying29 ?_;refine Zq k1 ?_;intro w3 pw3;replace bel:=bel.put k1 pw3 e1;replace k2:=k2.put pw3 (by omega);replace k1:=pw3.ao;refine bT 0 1 2 4 5 12 15 20 26 31 35 (ab.ai (aB ?_));refine ZW 9 Tryz.underlying29 k1 ?_;refine Zo 9 k2 ?_;intro w4 pw4;replace bel:=bel.put k2 pw4 e2;replace k1:=k1.put pw4 (by omega);replace k2:=pw4.ao;refine bT 0 1 2 4 5 12 15 20 26 31 35 (Zt (Cd.ret ?_));refine jU 9 k2 Tryz.underlying29 ?_;rw[if_neg h1];rw[if_neg h2];rw[if_neg h3];rw[if_neg h4];rw[if_neg h5];rw[if_neg h6];rw[if_pos h7];exact⟨rfl,bel⟩
 refine Cd.skip (ab.ai (aB ?_));refine ZW 9 Tryz.underlying29 k1 ?_;refine Zo 9 k2 ?_;intro w3 pw3;replace bel:=bel.put k2 pw3 e2;replace k1:=k1.put pw3 (by omega);replace k2:=pw3.ao;refine bT 0 1 2 4 5 12 15 20 26 31 35 (Zt (Cd.ret ?_));refine jU 9 k2 Tryz.underlying29 ?_;rw[if_neg h1,if_neg h2,if_neg h3,if_neg h4,if_neg h5,if_neg h6,if_neg h7];exact⟨rfl,bel⟩
theorem wS (n:Int)(w:World):Calls Tryz.prog 37 #[.int .i64 n] w fun en w'=>en= .returned (.bool (decide (0≤n)&&decide (n≤2932896)))∧Grow w w':=by
 have bel:=Below.refl w.heap.size w;refine Zs 9 Tryz.func37 ?_;refine aj ?_;refine Za ?_;refine dM 0 2 (aB ?_);refine Zm ?_;refine mz ?_;refine Zm ?_;refine av.start ?_;refine bk (fun hcx=>aa.move rfl rfl) ?_;refine Zn (fun hcx=>aa.leq rfl rfl rfl) ?_;refine ep ?_;refine Za ?_;refine dM 0 2 (Zt (Cd.ret ?_));refine aX ?_;exact⟨rfl,bel⟩
def rf (e:Ev):Bool:=(!(decide (e.kind≠2)&&decide (e.kind≠3))||cI e.id)&&(!(decide (e.kind≠2)&&decide (e.kind≠7))||cI e.a)&&(!(decide (e.kind=1)||decide (e.kind=5))||(cI e.b&&decide (e.a≠e.b)))
set_option maxHeartbeats 1000000 in
theorem Ak (e:Ev)(he:e.kh)(w:World):Calls Tryz.prog 35 #[e.v] w fun en w'=>en= .returned (.bool (rf e))∧Grow w w':=by
 have bel:=Below.refl w.heap.size w;have ha:=he.a;have hb:=he.b;have h1:=fun W=>gp e.id W he.id he.Fk;have h2:=fun W=>gp e.a W he.a he.la;have h3:=fun W=>gp e.b W he.b he.lb;unfold Ev.v rf;refine Zs 62 Tryz.func35 ?_;refine aj ?_;refine Seq.box rfl rfl rfl rfl rfl ?_;intro g1 w1 n1;have e1:=Nat.le_trans bel.size n1.ge;replace bel:=bel.step n1.below;have k1:=n1.ao;refine Za ?_;refine bu 0 1 2 (aB ?_);refine Zf 0 Tryz.underlying29 ?_;refine ZL Tryz.underlying3 k1 ?_;refine kL ?_;refine Zm ?_;refine av.start ?_;refine bk (fun hcx=>aa.ak 0 rfl rfl Tryz.underlying29 rfl (by kernel_rfl)) ?_;refine Zn (fun hcx=>aa.an rfl rfl Tryz.underlying3 rfl k1 rfl) ?_;refine Zn (fun hcx=>aa.cz rfl rfl rfl) ?_;refine ep ?_;refine Za ?_;refine aZ 0 1 2 3 (aB ?_);refine Zf 0 Tryz.underlying29 ?_;refine ZL Tryz.underlying3 k1 ?_;refine kL ?_;refine Zm ?_;refine av.start ?_;refine bk (fun hcx=>aa.ak 0 rfl rfl Tryz.underlying29 rfl (by kernel_rfl)) ?_;refine Zn (fun hcx=>aa.an rfl rfl Tryz.underlying3 rfl k1 rfl) ?_;refine Zn (fun hcx=>aa.cz rfl rfl rfl) ?_;refine ep ?_;refine Za ?_;refine aU 0 1 2 3 4 (aB ?_);refine Zf 0 Tryz.underlying29 ?_;refine ZL Tryz.underlying3 k1 ?_;refine bq ?_;refine Zm ?_;refine av.start ?_;refine bk (fun hcx=>aa.ak 0 rfl rfl Tryz.underlying29 rfl (by kernel_rfl)) ?_;refine Zn (fun hcx=>aa.an rfl rfl Tryz.underlying3 rfl k1 rfl) ?_;refine Zn (fun hcx=>aa.fm rfl rfl rfl) ?_;refine eG ?_;refine Za ?_;refine bl 0 1 2 3 4 5 (aB ?_);refine Zm ?_;refine iC ?_;refine Zm ?_;refine av.start ?_;refine bk (fun hcx=>aa.ak 1 rfl rfl Tryz.underlying29 rfl (by kernel_rfl)) ?_;refine Zn (fun hcx=>aa.an rfl rfl Tryz.underlying9 rfl k1 rfl) ?_;refine av.bj rfl rfl rfl rfl rfl rfl rfl (fun hcx=>Ze Tryz.func62) (fun hcx=>h1 _) ?_;intro w2 hw2;replace bel:=bel.step hw2;replace k1:=k1.step hw2;refine eG ?_;refine Zm ?_;refine av.start ?_;refine bk (fun hcx=>aa.move rfl rfl) ?_;refine Zn (fun hcx=>aa.not rfl rfl) ?_;refine jl ?_;refine bk (fun hcx=>aa.ak 2 rfl rfl Tryz.underlying29 rfl (by kernel_rfl)) ?_;refine Zn (fun hcx=>aa.an rfl rfl Tryz.underlying9 rfl k1 rfl) ?_;refine av.bj rfl rfl rfl rfl rfl rfl rfl (fun hcx=>Ze Tryz.func62) (fun hcx=>h2 _) ?_;intro w3 hw3;replace bel:=bel.step hw3;replace k1:=k1.step hw3;refine av.E6 rfl rfl rfl rfl rfl rfl rfl rfl rfl rfl rfl ?_;refine ep ?_;refine Zm ?_;refine av.start ?_;refine bk (fun hcx=>aa.move rfl rfl) ?_;refine Zn (fun hcx=>aa.not rfl rfl) ?_;refine jl ?_;refine bk (fun hcx=>aa.ak 3 rfl rfl Tryz.underlying29 rfl (by kernel_rfl)) ?_;refine Zn (fun hcx=>aa.an rfl rfl Tryz.underlying9 rfl k1 rfl) ?_;refine av.bj rfl rfl rfl rfl rfl rfl rfl (fun hcx=>Ze Tryz.func62) (fun hcx=>h3 _) ?_;intro w4 hw4;replace bel:=bel.step hw4;replace k1:=k1.step hw4;refine jl ?_;refine bk (fun hcx=>aa.ak 2 rfl rfl Tryz.underlying29 rfl (by kernel_rfl)) ?_;refine Zn (fun hcx=>aa.an rfl rfl Tryz.underlying9 rfl k1 rfl) ?_;refine Zn (fun hcx=>aa.ak 3 rfl rfl Tryz.underlying29 rfl (by kernel_rfl)) ?_;refine Zn (fun hcx=>aa.an rfl rfl Tryz.underlying9 rfl k1 rfl) ?_;refine Zn (fun hcx=>aa.ku (a:=e.a) (b:=e.b) rfl rfl rfl ha hb) ?_;refine av.pN rfl rfl rfl rfl rfl rfl rfl rfl rfl rfl rfl ?_;refine av.E6 rfl rfl rfl rfl rfl rfl rfl rfl rfl rfl rfl ?_;refine ep ?_;refine Za ?_;refine bl 0 1 2 3 4 5 (Zt (Cd.ret ?_));refine aX ?_;exact⟨aW (aF (by simp)),bel⟩
def fS (s:List Nat):Bool:=decide ((cA s).2.2=0)&&decide (et (cA s).1=s)
theorem nq {l:List Nat}(h:(cA l).2.2=0):bV (cA l).1=true∧l.length≤4000:=by
 rcases yp l with ⟨t,h1,h2,h3⟩|⟨h1,-⟩|⟨h1,-⟩|⟨p,h1,-⟩
 ·rw[h1];exact⟨h2,h3⟩
 ·rw[h1] at h;cases h
 ·rw[h1] at h;cases h
 ·rw[h1] at h;cases h
theorem sB {l:List Nat}(h:(cA l).2.2≠0):(cA l).1=iZ:=by
 unfold cA at h⊢;split
 ·rfl
 ·rename_i h0
  rw[if_neg h0] at h
  cases hq:jZ (bb l).1 with
  |ok x q=>
   rw[hq] at h;dsimp only at h⊢;split
   ·rename_i hx
    rw[if_pos hx] at h;exact absurd rfl h
   ·rfl
  |bad p o=>rfl
  |out=>rfl
theorem tO (w:World):(Instr.build 71 #[]).run Tryz.prog w= .ok (.agg #[.int .i64 0, .string (strOf []), .slice none 0 0, .slice none 0 0]) w:=by kernel_rfl
theorem qV (s:List Nat)(w:World)(hs:∀x∈s,x<256)(hlen:s.length≤9223372036854775807):
  Calls Tryz.prog 36 #[.string (strOf s)] w fun en w'=>Below w.heap.size w w'∧∃(v:Value) (S:Nat→Prop),en= .returned (.tuple #[v, .bool (fS s)])∧dR w' S (cA s).1 v∧∀b,S b→w.heap.size≤b∧b<w'.heap.size:=by
 have bel:=Below.refl w.heap.size w;have hps:=fun W=>rX s W hs hlen;have hok:= @nq s;have hno:= @sB s;unfold fS;obtain⟨t,q,z,hP⟩:∃t q z,cA s=(t,q,z):=⟨_,_,_,rfl⟩;rw[hP] at hok hno⊢;simp only[hP] at hps;dsimp only at hok hno⊢;refine Zs 30 Tryz.func36 ?_;refine aj ?_;refine Zl aK ?_;intro g2 w1 n2;have e2:=Nat.le_trans bel.size n2.ge;replace bel:=bel.step n2.below;have k2:=n2.ao;refine Za ?_;refine bu 0 2 3 (aB ?_);refine Zm ?_;have q1:=bel.size;have q2:=k2.lt;refine Zc (Ze Tryz.func81) (hps _) ?_;rintro en w5 ⟨hb5,v,S,rfl,hrep,hS⟩;obtain⟨A1,c1,A2,c2,hvX⟩:=hrep.form;subst hvX;refine⟨_,rfl,?_⟩;replace bel:=bel.step hb5;replace k2:=k2.step hb5;have rs:zm _ w5.heap.size S t (.agg #[.int .i64 t.op, .string (strOf t.name), .slice A1 t.exprs.length c1, .slice A2 t.ar.length c2]) w5:=⟨hrep,hS,Nat.le_refl _⟩;refine Zm ?_;refine Zx ?_;refine Zx ?_;refine Zx ?_;refine Zl aK ?_;intro g4 w2 n4;have q4:=n4.ge;have e4:=Nat.le_trans bel.size n4.ge;have l4:=Nat.lt_of_lt_of_le k2.lt n4.ge;replace bel:=bel.step n4.below;replace k2:=k2.step n4.below;replace rs:=rs.step n4.below;have k4:=n4.ao;refine Zo 4 k4 ?_;intro w3 pw3;replace bel:=bel.put k4 pw3 e4;replace k2:=k2.put pw3 (by omega);replace rs:=rs.put k4 pw3 e4;replace k4:=pw3.ao;refine Za ?_;refine Za ?_;refine aU 0 2 3 4 6 (aJ (aj ?_));have k4:aH _ g4 71 #[.int .i64 t.op, .string (strOf t.name), .slice A1 t.exprs.length c1, .slice A2 t.ar.length c2]:=k4;refine Zm ?_;refine kL ?_;refine bl 0 2 3 4 6 15 (Zt ?_);refine Cd.au rfl (fun hz=> ?_) (fun hz=> ?_)
 ·skip
  refine aj ?_;refine Zv (aa.build rfl rfl (tO _)) ?_;refine Zo 4 k2 ?_;intro w4 pw4;replace bel:=bel.put k2 pw4 e2;replace rs:=rs.put k2 pw4 e2;replace k4:=k4.put pw4 (by omega);replace k2:=pw4.ao;refine Za ?_;refine bl 0 2 3 4 6 15 (Zt (Cd.ret (ab.af ?_)));refine ab.iH rfl rfl rfl k2 Tryz.underlying71 rfl (m:=4) (by kernel_rfl) rfl (.inl rfl) ?_;obtain rfl:=hno hz;exact⟨bel,_,fun _=>False,yC rfl (aF (by rw[decide_eq_false hz];rfl)),dR.zero _ _,fun b hb=>hb.elim⟩
 have hz:z=0:=Decidable.not_not.1 hz;obtain⟨hrt,h4⟩:=hok hz;obtain⟨hn2,hd2,hbt⟩:=kx hrt;have hpt:=fun W (hr:fv W W.heap.size t (.agg #[.int .i64 t.op, .string (strOf t.name), .slice A1 t.exprs.length c1, .slice A2 t.ar.length c2]))=>lJ t _ W (by omega) hr;have hbd:=(kU t.nodes t (Nat.le_refl _) hbt).2;have e1:kD t=et t:=by unfold kD;rw[if_pos hrt]
 rw[hrt,e1] at hpt
 have hor:(eX true (et t)=([],4)∧et t≠s)∨eX true (et t)=(et t,0):=by
  unfold eX;rw[if_neg (by decide)];split
  ·rename_i hl4
   exact .inl ⟨rfl,fun h=>by rw[h] at hl4;omega⟩
  ·exact .inr rfl
 obtain⟨⟨s1,n1⟩,hs1⟩:∃z,eX true (et t)=z:=⟨_,rfl⟩;rw[hs1] at hor hpt
 have hs256:∀x∈s1,x<256:=by
  rcases hor with ⟨h,-⟩|h
  ·injection h with h _;rw[h];simp
  ·injection h with h _;rw[h];exact hbd
 have hfin:(decide (n1=0)&&decide (s1=s))=(decide (z=0)&&decide (et t=s)):=by
  rcases hor with ⟨h,h2⟩|h
  ·injection h with h h3
   rw[h3,decide_eq_false h2];simp
  ·injection h with h h3
   rw[h,h3,decide_eq_true hz];rfl
 refine Cd.skip (aB ?_);refine ZW 4 Tryz.underlying71 k4 ?_;refine Zc (Ze Tryz.func82) (hpt _ (rs.rep.mono (fun b hb=>Nat.lt_of_lt_of_le (rs.bd b hb).2 rs.eV) (fun _ _=>rfl))) ?_;rintro en w6 ⟨rfl,hb6⟩;refine⟨_,rfl,?_⟩;replace bel:=bel.step hb6;replace k2:=k2.step hb6;replace rs:=rs.step hb6;replace k4:=k4.step hb6;refine Zm ?_;refine Zx ?_;refine Zx ?_;refine Za ?_;refine Za ?_;refine bp 0 2 3 4 6 7 15 (aB ?_);refine ZW 4 Tryz.underlying71 k4 ?_;refine Zm ?_;refine bq ?_;refine Zm ?_;refine av.start ?_;refine bk (fun hcx=>aa.move rfl rfl) ?_;refine jl ?_;refine Zn (fun hcx=>aa.dq (a:=s1) (b:=s) rfl rfl rfl hs256 hs) ?_;refine ep ?_;refine Zo 4 k2 ?_;intro w4 pw4;replace bel:=bel.put k2 pw4 e2;replace rs:=rs.put k2 pw4 e2;replace k4:=k4.put pw4 (by omega);replace k2:=pw4.ao;refine Za ?_;refine bp 0 2 3 4 6 7 15 (Zt (Cd.ret ?_));refine ab.iH rfl rfl rfl k2 Tryz.underlying71 rfl (m:=4) (by kernel_rfl) rfl (.inl rfl) ?_;rw[←hfin];exact⟨bel,_,S,rfl,rs.rep,fun b hb=>⟨by have:=(rs.bd b hb).1;omega,Nat.lt_of_lt_of_le (rs.bd b hb).2 rs.eV⟩⟩
def mR (op:Int):Int × Int:=
 if(5≤op∧op≤10)∨op=20 then(1,1) else if 11≤op∧op≤16 then(1,2) else if op=17∨op=18∨op=19 then(2,2) else(0,1)
theorem sQ (op:Int)(w:World):Calls Tryz.prog 192 #[.int .i64 op] w fun e w'=>e= .returned (.tuple #[.int .i64 (mR op).1, .int .i64 (mR op).2])∧Grow w w':=by
 have bel:=Below.refl w.heap.size w;have ho:mR op=if(5≤op∧op≤10)∨op=20 then(1,1) else if 11≤op∧op≤16 then(1,2) else if op=17∨op=18∨op=19 then(2,2) else(0,1):=rfl
 generalize mR op=q at ho⊢
 refine Zs 27 Tryz.func192 ?_;refine aj ?_;refine Za ?_;refine Za ?_;refine bu 0 2 3 (aJ (Cd.block (Cd.seq (aj ?_))));refine Zm ?_;refine mz ?_;refine Zm ?_;refine av.start ?_;refine bk (fun hcx=>aa.move rfl rfl) ?_;refine Zn (fun hcx=>aa.leq rfl rfl rfl) ?_;refine ep ?_;refine Za ?_;refine aZ 0 2 3 4 (Zt ?_);refine Cd.cond rfl (fun h=> ?_) (fun h=> ?_)
 ·skip
  refine Cd.skip (Zt ?_);refine Cd.aY rfl h ?_;simp at h;refine aj ?_;refine Za ?_;refine Za ?_;refine aZ 0 2 3 4 (Zt (Cd.ret (ab.ah (ab.af ?_))));refine dO ?_;rw[if_pos (by omega)] at ho;subst ho;exact⟨rfl,bel⟩
 ·skip
  refine Zr ?_;refine Zm ?_;refine bq ?_;refine Za ?_;refine aZ 0 2 3 4 (Zt ?_);simp at h;refine Cd.au rfl (fun hc=> ?_) (fun hc=> ?_)
  ·skip
   refine aj ?_;refine Za ?_;refine Za ?_;refine aZ 0 2 3 4 (Zt (Cd.ret (ab.ah (ab.af ?_))));refine dO ?_;rw[if_pos (by omega)] at ho;subst ho;exact⟨rfl,bel⟩
  ·rw[if_neg (by omega)] at ho
   refine aj ?_;refine Zm ?_;refine mz ?_;refine Zm ?_;refine av.start ?_;refine bk (fun hcx=>aa.move rfl rfl) ?_;refine Zn (fun hcx=>aa.leq rfl rfl rfl) ?_;refine ep ?_;refine Za ?_;refine aU 0 2 3 4 13 (Zt ?_);refine Cd.cond rfl (fun h3=> ?_) (fun h3=> ?_)
   ·simp at h3
    refine aj ?_;refine Za ?_;refine Za ?_;refine aU 0 2 3 4 13 (Zt (Cd.ret (ab.ah (ab.af ?_))));refine dO ?_;rw[if_pos (by omega)] at ho;subst ho;exact⟨rfl,bel⟩
   ·simp at h3
    rw[if_neg (by omega)] at ho;refine Cd.seq (aj ?_);refine Zm ?_;refine bq ?_;refine Za ?_;refine bl 0 2 3 4 13 20 (Zt ?_);refine Cd.cond rfl (fun h4=> ?_) (fun h4=> ?_)
    ·skip
     refine Cd.skip (Zt ?_);refine Cd.aY rfl h4 ?_;simp at h4;refine aj ?_;refine Za ?_;refine Za ?_;refine bl 0 2 3 4 13 20 (Zt (Cd.ret (ab.ah (ab.af ?_))));refine dO ?_;rw[if_pos (by omega)] at ho;subst ho;exact⟨rfl,bel⟩
    ·simp at h4
     refine aj ?_;refine Zm ?_;refine bq ?_;refine Za ?_;refine bl 0 2 3 4 13 20 (Zt ?_);refine Cd.cond rfl (fun h5=> ?_) (fun h5=> ?_)
     ·skip
      refine Cd.skip (Zt ?_);refine Cd.aY rfl h5 ?_;simp at h5;refine aj ?_;refine Za ?_;refine Za ?_;refine bl 0 2 3 4 13 20 (Zt (Cd.ret (ab.ah (ab.af ?_))));refine dO ?_;rw[if_pos (by omega)] at ho;subst ho;exact⟨rfl,bel⟩
     ·simp at h5
      refine Zr ?_;refine Zm ?_;refine bq ?_;refine Za ?_;refine bl 0 2 3 4 13 20 (Zt ?_);refine Cd.cond rfl (fun h6=> ?_) (fun h6=> ?_)
      ·simp at h6
       refine aj ?_;refine Za ?_;refine Za ?_;refine bl 0 2 3 4 13 20 (Zt (Cd.ret (ab.ah (ab.af ?_))));refine dO ?_;rw[if_pos (by omega)] at ho;subst ho;exact⟨rfl,bel⟩
      ·simp at h6
       rw[if_neg (by omega)] at ho;refine Cd.skip (ab.ai (aB ?_));refine Za ?_;refine Za ?_;refine bl 0 2 3 4 13 20 (Zt (Cd.ret ?_));refine dO ?_;subst ho;exact⟨rfl,bel⟩
mutual
def eQ:Ex→Int
 | .mk op _ _ l=>if op=21 then(if(m7 l).getD 0 0=2∧(m7 l).getD 1 0=(m7 l).getD 2 0 then(m7 l).getD 1 0 else 0) else if∀k∈m7 l,k=(mR op).1 then(mR op).2 else 0
def m7:List Ex→List Int
 | []=>[]
 |e::r=>eQ e::m7 r
end
theorem nC:∀l,m7 l=l.map eQ
 | []=>by rw[m7];rfl
 |e::r=>by rw[m7,nC r];rfl
theorem Ap {e:Ex}{a b c:Ex}(h:e.op=21)(hl:e.args=[a,b,c]):eQ e=if eQ a=2∧eQ b=eQ c then eQ b else 0:=by
 cases e with|mk op n nm l=>
 have h:op=21:=h;have hl:l=[a,b,c]:=hl;rw[eQ,if_pos h,nC,hl];rfl
theorem Ag {e:Ex}(h:e.op≠21):eQ e=if∀x∈e.args,eQ x=(mR e.op).1 then(mR e.op).2 else 0:=by
 cases e with|mk op n nm l=>
 have h:op≠21:=h;rw[eQ,if_neg h,nC];show(if _ then(mR op).2 else 0)=if∀x∈l,eQ x=(mR op).1 then(mR op).2 else 0;simp only[List.forall_mem_map]
theorem uM (N:Nat):∀(e:Ex) (B:Nat) (v:Value) (w:World),e.nodes≤N→bF e=true→lE w B e v→B≤w.heap.size→Calls Tryz.prog 143 #[v] w fun en w'=>en= .returned (.int .i64 (eQ e))∧Grow w w':=by
 induction N with
 |zero=>intro e B v w hN;have:=e.bU;omega
 |succ N ih=>
 intro e B v w hN hbt hrep hB;obtain⟨A,c,rfl,hv⟩:=hrep.open;have bel:=Below.refl w.heap.size w;obtain⟨hhd,hargs⟩:=mg hbt;have har:=rh (nr hhd).1;have dX:=hv.dX
 have harg:∀k x,e.args[k]? =some x→∃ad A' c',A=some ad∧(∀W,Below w.heap.size w W→∀(j:Nat) (u:Value),([.int .i64 x.op, .int .i64 x.n, .string (strOf x.name), .slice A' x.args.length c']:List Value)[j]? =some u→W.cell? ((ad.add (k*4)).add j)=some u)∧∀W,Below w.heap.size w W→Calls Tryz.prog 143 #[.agg #[.int .i64 x.op, .int .i64 x.n, .string (strOf x.name), .slice A' x.args.length c']] W fun en w'=>en= .returned (.int .i64 (eQ x))∧Grow W w':=fun k x hx=>by
  obtain⟨ad,A',c',e1,hbl,hrx,hc⟩:=hv.arg k x hx;have hxm:=List.mem_of_getElem? hx;have hxn:=Ex.fK hxm;exact⟨ad,A',c',e1,fun W hb j u hj=>((hb.mono hB).cell (p:=(ad.add (k*4)).add j) (by rw[ag,ag];exact hbl)).trans (hc j u hj),fun W hb=>ih x B _ W (by omega) (hargs x hxm) (hrx.below (hb.mono hB)) (Nat.le_trans hB hb.size)⟩
 refine Zs 55 Tryz.func143 ?_;refine aj ?_;refine Seq.box rfl rfl rfl rfl rfl ?_;intro g1 w1 n1;have e1:=Nat.le_trans bel.size n1.ge;replace bel:=bel.step n1.below;have k1:=n1.ao;refine Za ?_;refine bu 0 1 2 (aJ (aj ?_));refine Zf 0 Tryz.underlying105 ?_;refine ZL Tryz.underlying3 k1 ?_;refine bq ?_;refine aZ 0 1 2 12 (Zt ?_);refine Cd.au rfl (fun hc=> ?_) (fun hc=> ?_)
 ·obtain⟨a,b,d,hl⟩:∃a b d,e.args=[a,b,d]:=by
   have h3:=har.2.2.2.2.2 hc
   match h:e.args with
   | [a,b,d]=>exact⟨a,b,d,rfl⟩
   | []| [_]| [_,_]|_::_::_::_::_=>rw[h] at h3;simp at h3
  have hki:=Ap hc hl;rw[hl] at harg;obtain⟨ad,A1,c1,rfl,hc1,hr1⟩:=harg 0 a rfl;obtain⟨ad',A2,c2,e2,hc2,hr2⟩:=harg 1 b rfl
  cases e2
  obtain⟨ad',A3,c3,e3,hc3,hr3⟩:=harg 2 d rfl
  cases e3
  have hlen:e.args.length=3:=by rw[hl];rfl
  rw[hlen] at *;refine Cd.seq ?_;refine Cd.ef (F':=[(0,_),(1,_),(2,_),(12,_)]) ⟨rfl,rfl,rfl,rfl,trivial⟩ ?_;refine fV 18 ?_;intro w2 hw2 zw2;replace bel:=bel.step hw2;replace k1:=k1.step hw2;have zbel:=bel.size;have zlt:=k1.lt;refine fp 3 Tryz.underlying105 ?_;refine eH Tryz.underlying68 k1 ?_;refine Zd (fun w hG=>aa.aR rfl rfl rfl Tryz.underlying68 (s:=4) (by kernel_rfl) (j:=0) rfl (by omega)) ?_;refine Zd (fun w hG=>aa.bP (ps:=[.int .i64 a.op, .int .i64 a.n, .string (strOf a.name), .slice A1 a.args.length c1]) rfl rfl Tryz.underlying105 rfl (m:=4) (by kernel_rfl) rfl (hc1 _ (bel.step hG))) ?_;refine Dr.dm rfl (fun w=>Ze Tryz.func143) rfl (fun w hG=>hr1 w (bel.step hG)) ?_;refine fp 3 Tryz.underlying105 ?_;refine eH Tryz.underlying68 k1 ?_;refine Zd (fun w hG=>aa.aR rfl rfl rfl Tryz.underlying68 (s:=4) (by kernel_rfl) (j:=1) rfl (by omega)) ?_;refine Zd (fun w hG=>aa.bP (ps:=[.int .i64 b.op, .int .i64 b.n, .string (strOf b.name), .slice A2 b.args.length c2]) rfl rfl Tryz.underlying105 rfl (m:=4) (by kernel_rfl) rfl (hc2 _ (bel.step hG))) ?_;refine Dr.dm rfl (fun w=>Ze Tryz.func143) rfl (fun w hG=>hr2 w (bel.step hG)) ?_;refine fp 3 Tryz.underlying105 ?_;refine eH Tryz.underlying68 k1 ?_;refine Zd (fun w hG=>aa.aR rfl rfl rfl Tryz.underlying68 (s:=4) (by kernel_rfl) (j:=2) rfl (by omega)) ?_;refine Zd (fun w hG=>aa.bP (ps:=[.int .i64 d.op, .int .i64 d.n, .string (strOf d.name), .slice A3 d.args.length c3]) rfl rfl Tryz.underlying105 rfl (m:=4) (by kernel_rfl) rfl (hc3 _ (bel.step hG))) ?_;refine Dr.dm rfl (fun w=>Ze Tryz.func143) rfl (fun w hG=>hr3 w (bel.step hG)) ?_;refine Zd (fun w hG=>aa.assign rfl rfl) ?_;refine Zd (fun w hG=>aa.assign rfl rfl) ?_;refine Zd (fun w hG=>aa.assign rfl rfl) ?_;refine Dr.nil ?_;refine br.done (F':=[(0,_),(1,_),(2,_),(3,_),(4,_),(5,_),(12,_)]) rfl ⟨rfl,rfl,rfl,rfl,rfl,rfl,rfl,trivial⟩ ?_;intro w3 hw3 fw3;replace bel:=bel.step hw3;replace k1:=k1.step hw3;refine bp 0 1 2 3 4 5 12 (aJ (aj ?_));refine Zm ?_;refine kL ?_;refine Zm ?_;refine av.start ?_;refine bk (fun hcx=>aa.move rfl rfl) ?_;refine jl ?_;refine Zn (fun hcx=>aa.cz rfl rfl rfl) ?_;refine eG ?_;refine cn 0 1 2 3 4 5 12 34 (Zt ?_);refine Cd.cond rfl (fun h=> ?_) (fun h=> ?_)
  ·simp at h
   rw[if_neg (fun hh=>by omega)] at hki;refine aj ?_;refine Za ?_;refine cn 0 1 2 3 4 5 12 34 (Zt (Cd.ret (ab.af (ab.af ?_))));refine aX ?_;exact⟨aW (int_eq hki.symm),bel⟩
  ·simp at h
   rw[if_pos (by omega)] at hki;refine Cd.skip (aB ?_);refine Zm ?_;refine Za ?_;refine cn 0 1 2 3 4 5 12 34 (Zt (Cd.ret (ab.af ?_)));refine aX ?_;exact⟨aW (int_eq hki.symm),bel⟩
 ·have hko:=Ag hc
  refine Cd.skip (aB ?_);refine Zf 0 Tryz.underlying105 ?_;refine ZL Tryz.underlying3 k1 ?_;refine Zc (Ze Tryz.func192) (sQ e.op _) ?_;rintro en w5 ⟨rfl,hb5⟩;refine⟨_,rfl,?_⟩;replace bel:=bel.step hb5;replace k1:=k1.step hb5;refine Zm ?_;refine Zx ?_;refine Zx ?_;refine Za ?_;refine Za ?_;refine bl 0 1 2 6 7 12 (aJ (aj ?_));refine Zf 3 Tryz.underlying105 ?_;refine ZL Tryz.underlying68 k1 ?_;refine Zv (aa.len rfl rfl Tryz.underlying68) ?_;refine Zm ?_;refine du 0 1 2 6 7 12 43 44 45 (Zt (Cd.block ?_));obtain⟨n,hn⟩:∃n,e.args.length=n:=⟨_,rfl⟩;rw[hn] at dX⊢
  refine Cd.loop (σ:=Nat) (fun k=>[(6, .int .i64 (mR e.op).1),(7, .int .i64 (mR e.op).2),(43, .slice A n c),(44, .int .i64 (n:Int)),(45, .int .i64 (k:Int))])
   (fun k wr=>k≤n∧(∀x∈e.args.take k,eQ x=(mR e.op).1)∧Below w.heap.size w wr) (fun k=>n-k) 0 ⟨Nat.zero_le _,by simp,bel⟩ ⟨rfl,rfl,rfl,rfl,rfl,trivial⟩ ?_
  clear bel k1;rintro k wr ⟨hk,hall,bel⟩;refine aj ?_;refine ff ?_;refine bl 6 7 43 44 45 46 (aJ ?_);refine Cd.au rfl (fun hc=> ?_) (fun hc=> ?_)
  ·obtain⟨x,hx⟩:∃x,e.args[k]? =some x:=⟨_,List.getElem?_eq_getElem (show k<e.args.length by omega)⟩
   obtain⟨ad,A',c',rfl,hcx,hrx⟩:=harg k x hx;have htk:e.args.take (k+1)=e.args.take k++[x]:=by rw[List.take_add_one,hx];rfl
   refine Cd.skip (aJ (Cd.block (aj ?_)));refine Zv (aa.aR rfl rfl rfl Tryz.underlying68 (s:=4) (by kernel_rfl) (j:=k) rfl (by omega)) ?_;refine Zv (aa.bP (ps:=[.int .i64 x.op, .int .i64 x.n, .string (strOf x.name), .slice A' x.args.length c']) rfl rfl Tryz.underlying105 rfl (m:=4) (by kernel_rfl) rfl (hcx _ bel)) ?_;refine Zl aw ?_;intro g9 w2 n9;have e9:=Nat.le_trans bel.size n9.ge;replace bel:=bel.step n9.below;have k9:=n9.ao;refine Zo 4 k9 ?_;intro w3 pw3;replace bel:=bel.put k9 pw3 e9;replace k9:=pw3.ao;refine bp 6 7 9 43 44 45 46 (aB ?_);refine ZW 4 Tryz.underlying105 k9 ?_;refine Zc (Ze Tryz.func143) (hrx _ bel) ?_;rintro en w6 ⟨rfl,hb6⟩;refine⟨_,rfl,?_⟩;replace bel:=bel.step hb6;replace k9:=k9.step hb6;refine Zm ?_;refine kL ?_;refine cn 6 7 9 43 44 45 46 52 (Zt ?_);refine Cd.au rfl (fun h=> ?_) (fun h=> ?_)
   ·rw[if_neg (fun hh=>h (hh x (List.mem_of_getElem? hx)))] at hko
    refine aj ?_;refine Za ?_;refine du 2 6 7 9 43 44 45 46 52 (Zt (Cd.ret (ab.ah (ab.af (ab.aL (ab.ah (ab.af ?_)))))));refine aX ?_;exact⟨aW (int_eq hko.symm),bel⟩
   ·skip
    refine Cd.skip (ab.ai (dU ?_));refine dt ?_;refine Zm ?_;refine cn 6 7 9 43 44 45 46 52 ?_;refine ab.round (k+1) ⟨rfl,rfl,rfl,rfl,rfl,trivial⟩ ⟨by omega,fun y hy=> ?_,bel⟩ (by omega);rw[htk] at hy;rcases List.mem_append.1 hy with hy|hy
    ·exact hall y hy
    ·simp at hy;subst hy;exact Classical.not_not.1 h
  ·obtain rfl:k=n:=by omega
   rw[←hn,List.take_length] at hall;rw[if_pos hall] at hko;refine Cd.exit (ab.aA (ab.ay (ab.az (aB ?_))));refine Zm ?_;refine Za ?_;refine bp 2 6 7 43 44 45 46 (Zt (Cd.ret ?_));refine aX ?_;exact⟨aW (int_eq hko.symm),bel⟩
def nz (op:Int):Int:=if op=6 then 1 else 2
theorem zr (t:Tm)(A A':Option Addr)(c c':Nat)(w:World):Calls Tryz.prog 144 #[.agg #[.int .i64 t.op, .string (strOf t.name), .slice A t.exprs.length c, .slice A' t.ar.length c']] w fun e w'=>e= .returned (.int .i64 (nz t.op))∧Grow w w':=by
 have bel:=Below.refl w.heap.size w;refine Zs 6 Tryz.func144 ?_;refine aj ?_;refine Seq.box rfl rfl rfl rfl rfl ?_;intro g1 w1 n1;have e1:=Nat.le_trans bel.size n1.ge;replace bel:=bel.step n1.below;have k1:=n1.ao;refine Za ?_;refine bu 0 1 2 (aJ (aj ?_));refine Zf 0 Tryz.underlying71 ?_;refine ZL Tryz.underlying3 k1 ?_;refine bq ?_;refine aZ 0 1 2 5 (Zt ?_);refine Cd.au rfl (fun hc=> ?_) (fun hc=> ?_)
 ·skip
  refine aj ?_;refine Za ?_;refine aZ 0 1 2 5 (Zt (Cd.ret (ab.af ?_)));refine aX ?_;exact⟨aW (int_eq (if_pos hc).symm),bel⟩
 ·skip
  refine Cd.skip (aB ?_);refine Za ?_;refine aZ 0 1 2 5 (Zt (Cd.ret ?_));refine aX ?_;exact⟨aW (int_eq (if_neg hc).symm),bel⟩
mutual
def gO:Tm→Bool
 | .mk op _ es l=>decide (∀e∈es,eQ e=nz op)&&vC l
def vC:List Tm→Bool
 | []=>true
 |t::r=>gO t&&vC r
end
theorem sI:∀l,vC l=l.all gO
 | []=>by rw[vC];rfl
 |e::r=>by rw[vC,sI r];rfl
theorem uk (t:Tm):gO t=(decide (∀e∈t.exprs,eQ e=nz t.op)&&t.ar.all gO):=by
 cases t;rw[gO,sI];rfl
theorem uB {t:Tm}(h:¬((∀e∈t.exprs,eQ e=nz t.op)∧∀x∈t.ar,gO x=true)):gO t=false:=by
 cases hh:gO t with
 |false=>rfl
 |true=>rw[uk,Bool.and_eq_true,decide_eq_true_eq,List.all_eq_true] at hh;exact absurd hh h
theorem vY {t:Tm}(h:∀e∈t.exprs,eQ e=nz t.op)(h2:∀x∈t.ar,gO x=true):gO t=true:=by
 rw[uk,Bool.and_eq_true,decide_eq_true_eq,List.all_eq_true];exact⟨h,h2⟩
theorem zS (N:Nat):∀(t:Tm) (B:Nat) (v:Value) (w:World),t.nodes≤N→bW t=true→fv w B t v→B≤w.heap.size→Calls Tryz.prog 100 #[v] w fun en w'=>en= .returned (.bool (gO t))∧Grow w w':=by
 induction N with
 |zero=>intro t B v w hN;have:=t.bU;omega
 |succ N ih=>
 intro t B v w hN hbt hrep hB;obtain⟨A,c,A',c',rfl,hv⟩:=hrep.open;have bel:=Below.refl w.heap.size w;obtain⟨hhd,hexs,htms⟩:=jF hbt;have dX:=hv.dX;have iD:=hv.iD;have hno:= @uB t;have hyes:= @vY t;have hneed:=fun W=>zr t A A' c c' W;obtain⟨b,hb⟩:∃b,gO t=b:=⟨_,rfl⟩;rw[hb] at hno hyes⊢
 have hexp:∀k x,t.exprs[k]? =some x→∃ad A' c',A=some ad∧(∀W,Below w.heap.size w W→∀(j:Nat) (u:Value),([.int .i64 x.op, .int .i64 x.n, .string (strOf x.name), .slice A' x.args.length c']:List Value)[j]? =some u→W.cell? ((ad.add (k*4)).add j)=some u)∧∀W,Below w.heap.size w W→Calls Tryz.prog 143 #[.agg #[.int .i64 x.op, .int .i64 x.n, .string (strOf x.name), .slice A' x.args.length c']] W fun en w'=>en= .returned (.int .i64 (eQ x))∧Grow W w':=fun k x hx=>by
  obtain⟨ad,A',c',e1,hbl,hrx,hc⟩:=hv.expr k x hx;exact⟨ad,A',c',e1,fun W hb j u hj=>((hb.mono hB).cell (p:=(ad.add (k*4)).add j) (by rw[ag,ag];exact hbl)).trans (hc j u hj),fun W hb=>uM x.nodes x B _ W (Nat.le_refl _) (hexs x (List.mem_of_getElem? hx)) (hrx.below (hb.mono hB)) (Nat.le_trans hB hb.size)⟩
 have htrm:∀k x,t.ar[k]? =some x→∃ad A1 A2 c1 c2,A'=some ad∧(∀W,Below w.heap.size w W→∀(j:Nat) (u:Value),(Dz x A1 A2 c1 c2)[j]? =some u→W.cell? ((ad.add (k*4)).add j)=some u)∧∀W,Below w.heap.size w W→Calls Tryz.prog 100 #[.agg #[.int .i64 x.op, .string (strOf x.name), .slice A1 x.exprs.length c1, .slice A2 x.ar.length c2]] W fun en w'=>en= .returned (.bool (gO x))∧Grow W w':=fun k x hx=>by
  obtain⟨ad,A1,A2,c1,c2,e1,hbl,hrx,hc⟩:=hv.term k x hx;have hxm:=List.mem_of_getElem? hx;have hxn:=Tm.eW hxm;exact⟨ad,A1,A2,c1,c2,e1,fun W hb j u hj=>((hb.mono hB).cell (p:=(ad.add (k*4)).add j) (by rw[ag,ag];exact hbl)).trans (hc j u hj),fun W hb=>ih x B _ W (by omega) (htms x hxm) (hrx.below (hb.mono hB)) (Nat.le_trans hB hb.size)⟩
 obtain⟨n,hn⟩:∃n,t.exprs.length=n:=⟨_,rfl⟩;obtain⟨m,hm⟩:∃m,t.ar.length=m:=⟨_,rfl⟩;rw[hn,hm] at hneed⊢;rw[hn] at dX;rw[hm] at iD;refine Zs 31 Tryz.func100 ?_;refine aj ?_;refine Seq.box rfl rfl rfl rfl rfl ?_;intro g1 w1 n1;have e1:=Nat.le_trans bel.size n1.ge;replace bel:=bel.step n1.below;have k1:=n1.ao;refine Za ?_;refine bu 0 1 2 (aJ (aj ?_));refine Zf 2 Tryz.underlying71 ?_;refine ZL Tryz.underlying68 k1 ?_;refine Zv (aa.len rfl rfl Tryz.underlying68) ?_;refine Zm ?_;refine bl 0 1 2 8 9 10 (Zt (Cd.block ?_))
 refine Cd.loop (σ:=Nat) (fun k=>[(1, .pointer (some ⟨g1,0,none⟩)),(8, .slice A n c),(9, .int .i64 (n:Int)),(10, .int .i64 (k:Int))])
  (fun k wr=>k≤n∧(∀x∈t.exprs.take k,eQ x=nz t.op)∧Below w.heap.size w wr∧aH wr g1 71 #[.int .i64 t.op, .string (strOf t.name), .slice A n c, .slice A' m c']) (fun k=>n-k) 0 ⟨Nat.zero_le _,by simp,bel,k1⟩ ⟨rfl,rfl,rfl,rfl,trivial⟩ ?_
 clear bel k1;rintro k wr ⟨hk,hall,bel,k1⟩;refine aj ?_;refine ff ?_;refine aU 1 8 9 10 11 (aJ ?_);refine Cd.au rfl (fun hc=> ?_) (fun hc=> ?_)
 ·obtain⟨x,hx⟩:∃x,t.exprs[k]? =some x:=⟨_,List.getElem?_eq_getElem (show k<t.exprs.length by omega)⟩
  obtain⟨ad,A1,c1,rfl,hcx,hrx⟩:=hexp k x hx;have htk:t.exprs.take (k+1)=t.exprs.take k++[x]:=by rw[List.take_add_one,hx];rfl
  refine Cd.skip (aJ (Cd.block (aj ?_)));refine Zv (aa.aR rfl rfl rfl Tryz.underlying68 (s:=4) (by kernel_rfl) (j:=k) rfl (by omega)) ?_;refine Zv (aa.bP (ps:=[.int .i64 x.op, .int .i64 x.n, .string (strOf x.name), .slice A1 x.args.length c1]) rfl rfl Tryz.underlying105 rfl (m:=4) (by kernel_rfl) rfl (hcx _ bel)) ?_;refine Zl aw ?_;intro g4 w2 n4;have e4:=Nat.le_trans bel.size n4.ge;have l4:=Nat.lt_of_lt_of_le k1.lt n4.ge;replace bel:=bel.step n4.below;replace k1:=k1.step n4.below;have k4:=n4.ao;refine Zo 4 k4 ?_;intro w3 pw3;replace bel:=bel.put k4 pw3 e4;replace k1:=k1.put pw3 (by omega);replace k4:=pw3.ao;refine bl 1 4 8 9 10 11 (aJ ?_);refine fV 5 ?_;intro w4 hw4 zw4;replace bel:=bel.step hw4;replace k1:=k1.step hw4;replace k4:=k4.step hw4;have zbel:=bel.size;have zlt:=k4.lt;refine Zd (fun w hG=>aa.dr rfl rfl Tryz.underlying105 rfl (k4.step hG) (m:=4) (by kernel_rfl) rfl) ?_;refine Dr.dm rfl (fun w=>Ze Tryz.func143) rfl (fun w hG=>hrx w (bel.step hG)) ?_;refine Zd (fun w hG=>aa.dr rfl rfl Tryz.underlying71 rfl (k1.step hG) (m:=4) (by kernel_rfl) rfl) ?_;refine Dr.dm rfl (fun w=>Ze Tryz.func144) rfl (fun w hG=>hneed w) ?_;refine Zd (fun w hG=>aa.cz rfl rfl rfl) ?_;refine Dr.nil ?_;refine br.done (F':=[(1,_),(4,_),(8,_),(9,_),(10,_),(11,_),(18,_)]) rfl ⟨rfl,rfl,rfl,rfl,rfl,rfl,rfl,trivial⟩ ?_;intro w5 hw5 fw5;replace bel:=bel.step hw5;replace k1:=k1.step hw5;replace k4:=k4.step hw5;refine bp 1 4 8 9 10 11 18 (Zt ?_);refine Cd.au rfl (fun hc=> ?_) (fun hc=> ?_)
  ·skip
   refine aj ?_;refine Za ?_;refine cn 1 2 4 8 9 10 11 18 (Zt (Cd.ret (ab.ah (ab.af (ab.aL (ab.ah (ab.af ?_)))))));refine aX ?_;exact⟨aW (aF (hno fun hh=>hc (hh.1 x (List.mem_of_getElem? hx))).symm),bel⟩
  ·skip
   refine Cd.skip (ab.ai (dU ?_));refine dt ?_;refine Zm ?_;refine bp 1 4 8 9 10 11 18 ?_;refine ab.round (k+1) ⟨rfl,rfl,rfl,rfl,trivial⟩ ⟨by omega,fun y hy=> ?_,bel,k1⟩ (by omega);rw[htk] at hy;rcases List.mem_append.1 hy with hy|hy
   ·exact hall y hy
   ·simp at hy;subst hy;exact Classical.not_not.1 hc
 ·obtain rfl:k=n:=by omega
  rw[←hn,List.take_length] at hall;refine Cd.exit (ab.aA (ab.ay (ab.az (aJ (aj ?_)))));refine Zf 3 Tryz.underlying71 ?_;refine ZL Tryz.underlying69 k1 ?_;refine Zv (aa.len rfl rfl Tryz.underlying69) ?_;refine Zm ?_;refine cn 1 8 9 10 11 21 22 23 (Zt (Cd.block ?_))
  refine Cd.loop (σ:=Nat) (fun k=>[(21, .slice A' m c'),(22, .int .i64 (m:Int)),(23, .int .i64 (k:Int))])
   (fun k wr=>k≤m∧(∀x∈t.ar.take k,gO x=true)∧Below w.heap.size w wr) (fun k=>m-k) 0 ⟨Nat.zero_le _,by simp,bel⟩ ⟨rfl,rfl,rfl,trivial⟩ ?_
  clear bel k1;rintro j wr ⟨hj,hallt,bel⟩;refine aj ?_;refine ff ?_;refine aZ 21 22 23 24 (aJ ?_);refine Cd.au rfl (fun hc=> ?_) (fun hc=> ?_)
  ·obtain⟨x,hx⟩:∃x,t.ar[j]? =some x:=⟨_,List.getElem?_eq_getElem (show j<t.ar.length by omega)⟩
   obtain⟨ad,A1,A2,c1,c2,rfl,hcx,hrx⟩:=htrm j x hx;have htk:t.ar.take (j+1)=t.ar.take j++[x]:=by rw[List.take_add_one,hx];rfl
   refine Cd.skip (aJ (Cd.block (aj ?_)));refine Zv (aa.aR rfl rfl rfl Tryz.underlying69 (s:=4) (by kernel_rfl) (j:=j) rfl (by omega)) ?_;refine Zv (aa.bP (ps:=[.int .i64 x.op, .string (strOf x.name), .slice A1 x.exprs.length c1, .slice A2 x.ar.length c2]) rfl rfl Tryz.underlying71 rfl (m:=4) (by kernel_rfl) rfl (hcx _ bel)) ?_;refine Zl aK ?_;intro g6 w2 n6;have e6:=Nat.le_trans bel.size n6.ge;replace bel:=bel.step n6.below;have k6:=n6.ao;refine Zo 4 k6 ?_;intro w3 pw3;replace bel:=bel.put k6 pw3 e6;replace k6:=pw3.ao;refine aU 6 21 22 23 24 (aB ?_);refine ZW 4 Tryz.underlying71 k6 ?_;refine Zc (Ze Tryz.func100) (hrx _ bel) ?_;rintro en w6 ⟨rfl,hb6⟩;refine⟨_,rfl,?_⟩;replace bel:=bel.step hb6;replace k6:=k6.step hb6;refine iC ?_;refine bl 6 21 22 23 24 29 (Zt ?_);refine Cd.cond rfl (fun h=> ?_) (fun h=> ?_)
   ·simp at h
    refine aj ?_;refine Za ?_;refine bp 2 6 21 22 23 24 29 (Zt (Cd.ret (ab.ah (ab.af (ab.aL (ab.ah (ab.af ?_)))))));refine aX ?_;exact⟨aW (aF (hno fun hh=>by rw[hh.2 x (List.mem_of_getElem? hx)] at h;cases h).symm),bel⟩
   ·simp at h
    refine Cd.skip (ab.ai (dU ?_));refine dt ?_;refine Zm ?_;refine bl 6 21 22 23 24 29 ?_;refine ab.round (j+1) ⟨rfl,rfl,rfl,trivial⟩ ⟨by omega,fun y hy=> ?_,bel⟩ (by omega);rw[htk] at hy;rcases List.mem_append.1 hy with hy|hy
    ·exact hallt y hy
    ·simp at hy;subst hy;exact h
  ·obtain rfl:j=m:=by omega
   rw[←hm,List.take_length] at hallt;refine Cd.exit (ab.aA (ab.ay (ab.az (aB ?_))));refine Za ?_;refine aU 2 21 22 23 24 (Zt (Cd.ret ?_));refine aX ?_;exact⟨aW (aF (hyes hall hallt).symm),bel⟩
end Go.Proofs.YtigoimhndlnhfaaGreat