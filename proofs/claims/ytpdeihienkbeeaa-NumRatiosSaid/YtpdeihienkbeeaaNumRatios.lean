/-
  NumRatios: any ratios in form, their sum, their product; any numbers' greatest divisor: the statement returns true. No condition.
-/
import Derived.Test.YtpdeihienkbeeaaNumO
import Derived.Test.YtpdeihienkbeeaaNumI
import Derived.Test.YtpdeihienkbeeaaOpenI
namespace Go.Proofs.Ytpdeihienkbeeaa
open Go.ChangeShapes Go.WideShapes Go.ChangeAt Go.RowKit

set_option maxRecDepth 100000 in
theorem open_ratio {H : Type} {enc : TypeId × Value → H} {W : World} {base : Nat} {v : Value} {d : DataW H} {p : List MemPlace} (hv : Value.okWide Try.prog W .any base 45 v)
    (h : DataW.Trod enc Try.prog W 0 (fun _ => true) true 45 v d p) : ∃ a b, v = .agg #[.int .i64 a, .int .i64 b] ∧ I64 a ∧ I64 b := by
  obtain ⟨c0, c1, y0, y1, m, rfl, -, -, hy0, hy1⟩ := Joins.open_agg2 Try.underlying45 (by kernel_rfl) (by kernel_rfl) hv h
  obtain ⟨x0, e0, -, f0⟩ := DataW.trod_int Try.underlying2 hy0
  obtain ⟨x1, e1, -, f1⟩ := DataW.trod_int Try.underlying2 hy1
  simp at e0 e1
  subst e0 e1
  simp only [Lit.wf, Bool.and_eq_true, decide_eq_true_eq] at f0 f1
  exact ⟨x0, x1, rfl, ⟨f0.1, f0.2⟩, ⟨f1.1, f1.2⟩⟩
theorem plus_prods_big {p q r s : Int} (hp : I64 p) (hq : I64 q) (hr : I64 r) (hs : I64 s) : (p * s + r * q).natAbs < big := by
  have h1 := hp.1; have h2 := hp.2; have h3 := hq.1; have h4 := hq.2
  have h5 := hr.1; have h6 := hr.2; have h7 := hs.1; have h8 := hs.2
  have e1 := Nat.mul_le_mul (show p.natAbs ≤ 9223372036854775808 by omega) (show s.natAbs ≤ 9223372036854775808 by omega)
  have e2 := Nat.mul_le_mul (show r.natAbs ≤ 9223372036854775808 by omega) (show q.natAbs ≤ 9223372036854775808 by omega)
  rw [← Int.natAbs_mul] at e1 e2
  refine big_of ?_
  generalize p * s = x at *
  generalize r * q = y at *
  omega
set_option maxHeartbeats 2000000 in
theorem walk_ratios (p q r s : Int) (w : World) (hp : I64 p) (hq : I64 q) (hr : I64 r) (hs : I64 s) :
    Calls Try.prog 10 #[.agg #[.int .i64 p, .int .i64 q], .agg #[.int .i64 r, .int .i64 s]] w fun e w' => e = .returned (.bool true) ∧ Below w.heap.size w w' := by
  have bel := Below.refl w.heap.size w
  have a1 := fun w => reduce_any p q w hp hq
  have a2 := fun w => ratAdd_any p q r s w hp hq hr hs
  have a3 := fun w => ratMul_any p q r s w hp hq hr hs
  have b1 := fun x y w hx hy => refRatio_any x y p q w hx hy hp.big hq.big
  have b2 := fun x y w hx hy => refRatio_any x y (p * s + r * q) (q * s) w hx hy (plus_prods_big hp hq hr hs) (natAbs_mul_big hq hs)
  have b3 := fun x y w hx hy => refRatio_any x y (p * r) (q * s) w hx hy (natAbs_mul_big hp hr) (natAbs_mul_big hq hs)
  obtain ⟨x1, y1, z1, hV1⟩ := ratV_open p q
  obtain ⟨x2, y2, z2, hV2⟩ := ratV_open (p * s + r * q) (q * s)
  obtain ⟨x3, y3, z3, hV3⟩ := ratV_open (p * r) (q * s)
  rw [hV1] at a1 b1
  rw [hV2] at a2 b2
  rw [hV3] at a3 b3
  clear hV1 hV2 hV3
  have qg1 := fun w => gcd_any p r w hp hr
  have qg2 := fun w => refGcd_any p r w hp hr
  generalize IntKind.i64.wrap ((Nat.gcd p.natAbs r.natAbs : Nat) : Int) = gg at *
  have hps : (p * s).natAbs < big := natAbs_mul_big hp hs
  have hrq : (r * q).natAbs < big := natAbs_mul_big hr hq
  refine Calls.start 115 Try.func10 rfl rfl rfl ?_
  refine Cd.seq ?_
  refine Cd.region ?_
  refine Seq.box rfl rfl rfl rfl rfl ?_
  intro g2 w1 n2
  have e2 := Nat.le_trans bel.size n2.ge
  replace bel := bel.step n2.below
  have k2 := n2.blk
  refine Seq.box rfl rfl rfl rfl rfl ?_
  intro g3 w2 n3
  have e3 := Nat.le_trans bel.size n3.ge
  have l3 := Nat.lt_of_lt_of_le k2.lt n3.ge
  replace bel := bel.step n3.below
  replace k2 := k2.step n3.below
  have k3 := n3.blk
  refine Seq.val (Runs.assign rfl rfl) rfl rfl rfl ?_
  refine Seq.nil ?_
  refine Post.weak (F' := [(0, _), (1, _), (2, _), (3, _), (4, _)]) ⟨rfl, rfl, rfl, rfl, rfl, trivial⟩ ?_
  refine Post.then_ ?_
  refine Cd.seq ?_
  refine Cd.drawD 16 [12, 13, 14, 15] (by kernel_rfl) [] (fun i o h ho => by have h2 := memB_spec h; simp at h2; rcases h2 with rfl | rfl | rfl | rfl <;> (obtain rfl := Option.some.inj ho; exact ⟨rfl, ⟨_, rfl⟩, _, _, rfl, run_zero zero_debentureref01_Big⟩)) (fun i _ => rfl) (.inl rfl) rfl ?_
  intro w3 hw3 zw3
  replace bel := bel.step hw3
  replace k2 := k2.step hw3
  replace k3 := k3.step hw3
  have zbel := bel.size
  have zlt := k3.lt
  refine Dr.val Grow.refl rfl (fun w hG => Runs.fieldB 0 rfl rfl Try.underlying45 rfl (by kernel_rfl)) rfl ?_
  refine Dr.val Grow.refl rfl (fun w hG => Runs.loadB rfl rfl Try.underlying2 rfl (k2.step hG) rfl) rfl ?_
  refine Dr.call (Φ := fun v w => BigR w v p) rfl (fun w => Enters.func rfl rfl rfl (run_enter Try.func25 (by kernel_rfl) rfl)) rfl (BigR.stable _) (fun w hG => of_big p _ hp.1 hp.2) ?_
  refine Dr.val Grow.refl rfl (fun w hG => Runs.fieldB 1 rfl rfl Try.underlying45 rfl (by kernel_rfl)) rfl ?_
  refine Dr.val Grow.refl rfl (fun w hG => Runs.loadB rfl rfl Try.underlying2 rfl (k2.step hG) rfl) rfl ?_
  refine Dr.call (Φ := fun v w => BigR w v q) rfl (fun w => Enters.func rfl rfl rfl (run_enter Try.func25 (by kernel_rfl) rfl)) rfl (BigR.stable _) (fun w hG => of_big q _ hq.1 hq.2) ?_
  refine Dr.val Grow.refl rfl (fun w hG => Runs.fieldB 0 rfl rfl Try.underlying45 rfl (by kernel_rfl)) rfl ?_
  refine Dr.val Grow.refl rfl (fun w hG => Runs.loadB rfl rfl Try.underlying2 rfl (k3.step hG) rfl) rfl ?_
  refine Dr.call (Φ := fun v w => BigR w v r) rfl (fun w => Enters.func rfl rfl rfl (run_enter Try.func25 (by kernel_rfl) rfl)) rfl (BigR.stable _) (fun w hG => of_big r _ hr.1 hr.2) ?_
  refine Dr.val Grow.refl rfl (fun w hG => Runs.fieldB 1 rfl rfl Try.underlying45 rfl (by kernel_rfl)) rfl ?_
  refine Dr.val Grow.refl rfl (fun w hG => Runs.loadB rfl rfl Try.underlying2 rfl (k3.step hG) rfl) rfl ?_
  refine Dr.call (Φ := fun v w => BigR w v s) rfl (fun w => Enters.func rfl rfl rfl (run_enter Try.func25 (by kernel_rfl) rfl)) rfl (BigR.stable _) (fun w hG => of_big s _ hs.1 hs.2) ?_
  refine Dr.alloc rfl rfl (run_zero zero_debentureref01_Big) rfl ?_
  refine Dr.alloc rfl rfl (run_zero zero_debentureref01_Big) rfl ?_
  refine Dr.alloc rfl rfl (run_zero zero_debentureref01_Big) rfl ?_
  refine Dr.alloc rfl rfl (run_zero zero_debentureref01_Big) rfl ?_
  refine Dr.nil ?_
  refine FinD.open (j := 2) rfl ?_
  intro u2
  refine FinD.open (j := 5) rfl ?_
  intro u5
  refine FinD.open (j := 8) rfl ?_
  intro u8
  refine FinD.open (j := 11) rfl ?_
  intro u11
  refine FinD.open (j := 12) rfl ?_
  intro u12
  refine FinD.open (j := 13) rfl ?_
  intro u13
  refine FinD.open (j := 14) rfl ?_
  intro u14
  refine FinD.open (j := 15) rfl ?_
  intro u15
  refine FinD.done (F' := [(0, _), (1, _), (2, _), (3, _), (4, _), (5, _), (6, _), (7, _), (8, _), (23, _), (26, _), (29, _), (32, _)]) rfl ⟨rfl, rfl, rfl, rfl, rfl, rfl, rfl, rfl, rfl, rfl, rfl, rfl, rfl, trivial⟩ ?_
  intro w4 hw4 fw4 dw4
  replace bel := bel.step hw4
  replace k2 := k2.step hw4
  replace k3 := k3.step hw4
  obtain ⟨⟨⟨⟨⟨⟨⟨⟨-, b5⟩, b6⟩, b7⟩, b8⟩, g5, rfl, k5, e5⟩, g6, rfl, k6, e6⟩, g7, rfl, k7, e7⟩, g8, rfl, k8, e8⟩ := fw4
  have ne56 : g5 ≠ g6 := dw4 12 13 5 6 _ _ _ _ (by decide) rfl rfl rfl rfl rfl rfl
  have ne57 : g5 ≠ g7 := dw4 12 14 5 7 _ _ _ _ (by decide) rfl rfl rfl rfl rfl rfl
  have ne58 : g5 ≠ g8 := dw4 12 15 5 8 _ _ _ _ (by decide) rfl rfl rfl rfl rfl rfl
  have ne67 : g6 ≠ g7 := dw4 13 14 6 7 _ _ _ _ (by decide) rfl rfl rfl rfl rfl rfl
  have ne68 : g6 ≠ g8 := dw4 13 15 6 8 _ _ _ _ (by decide) rfl rfl rfl rfl rfl rfl
  have ne78 : g7 ≠ g8 := dw4 14 15 7 8 _ _ _ _ (by decide) rfl rfl rfl rfl rfl rfl
  clear dw4
  obtain ⟨mp, rfl, omp, hmp⟩ := b5.agg
  obtain ⟨mq, rfl, omq, hmq⟩ := b6.agg
  obtain ⟨mr, rfl, omr, hmr⟩ := b7.agg
  obtain ⟨ms, rfl, oms, hms⟩ := b8.agg
  have i5 := hmp.ni
  have i6 := hmq.ni
  have i7 := hmr.ni
  have i8 := hms.ni
  have hmp : MagU w4 mp p.natAbs := ⟨hmp⟩
  have hmq : MagU w4 mq q.natAbs := ⟨hmq⟩
  have hmr : MagU w4 mr r.natAbs := ⟨hmr⟩
  have hms : MagU w4 ms s.natAbs := ⟨hms⟩
  have l5 := Nat.lt_of_lt_of_le zlt e5
  replace e5 := Nat.le_trans zbel e5
  have l6 := Nat.lt_of_lt_of_le zlt e6
  replace e6 := Nat.le_trans zbel e6
  have l7 := Nat.lt_of_lt_of_le zlt e7
  replace e7 := Nat.le_trans zbel e7
  have l8 := Nat.lt_of_lt_of_le zlt e8
  replace e8 := Nat.le_trans zbel e8
  refine Seq.storeN rfl rfl rfl rfl (m := 2) (by kernel_rfl) rfl (by repeat' first | exact trivial | apply And.intro | rfl | assumption) k5 (by simp [Value.cells]) rfl rfl ?_
  intro w5 pw5
  replace bel := bel.put k5 pw5 e5
  replace k2 := k2.put pw5 (by omega)
  replace k3 := k3.put pw5 (by omega)
  replace hmp := hmp.put k5 pw5 e5
  replace hmq := hmq.put k5 pw5 e5
  replace hmr := hmr.put k5 pw5 e5
  replace hms := hms.put k5 pw5 e5
  replace k6 := k6.put pw5 (by omega)
  replace k7 := k7.put pw5 (by omega)
  replace k8 := k8.put pw5 (by omega)
  replace k5 := pw5.blk
  refine Seq.storeN rfl rfl rfl rfl (m := 2) (by kernel_rfl) rfl (by repeat' first | exact trivial | apply And.intro | rfl | assumption) k6 (by simp [Value.cells]) rfl rfl ?_
  intro w6 pw6
  replace bel := bel.put k6 pw6 e6
  replace k2 := k2.put pw6 (by omega)
  replace k3 := k3.put pw6 (by omega)
  replace hmp := hmp.put k6 pw6 e6
  replace hmq := hmq.put k6 pw6 e6
  replace hmr := hmr.put k6 pw6 e6
  replace hms := hms.put k6 pw6 e6
  replace k5 := k5.put pw6 (by omega)
  replace k7 := k7.put pw6 (by omega)
  replace k8 := k8.put pw6 (by omega)
  replace k6 := pw6.blk
  refine Seq.storeN rfl rfl rfl rfl (m := 2) (by kernel_rfl) rfl (by repeat' first | exact trivial | apply And.intro | rfl | assumption) k7 (by simp [Value.cells]) rfl rfl ?_
  intro w7 pw7
  replace bel := bel.put k7 pw7 e7
  replace k2 := k2.put pw7 (by omega)
  replace k3 := k3.put pw7 (by omega)
  replace hmp := hmp.put k7 pw7 e7
  replace hmq := hmq.put k7 pw7 e7
  replace hmr := hmr.put k7 pw7 e7
  replace hms := hms.put k7 pw7 e7
  replace k5 := k5.put pw7 (by omega)
  replace k6 := k6.put pw7 (by omega)
  replace k8 := k8.put pw7 (by omega)
  replace k7 := pw7.blk
  refine Seq.storeN rfl rfl rfl rfl (m := 2) (by kernel_rfl) rfl (by repeat' first | exact trivial | apply And.intro | rfl | assumption) k8 (by simp [Value.cells]) rfl rfl ?_
  intro w8 pw8
  replace bel := bel.put k8 pw8 e8
  replace k2 := k2.put pw8 (by omega)
  replace k3 := k3.put pw8 (by omega)
  replace hmp := hmp.put k8 pw8 e8
  replace hmq := hmq.put k8 pw8 e8
  replace hmr := hmr.put k8 pw8 e8
  replace hms := hms.put k8 pw8 e8
  replace k5 := k5.put pw8 (by omega)
  replace k6 := k6.put pw8 (by omega)
  replace k7 := k7.put pw8 (by omega)
  replace k8 := pw8.blk
  refine Seq.nil ?_
  refine Post.weak (F' := [(0, _), (1, _), (2, _), (3, _), (4, _), (5, _), (6, _), (7, _), (8, _)]) ⟨rfl, rfl, rfl, rfl, rfl, rfl, rfl, rfl, rfl, trivial⟩ ?_
  refine Post.then_ ?_
  refine Cd.seq ?_
  refine Cd.region ?_
  refine Seq.val (Runs.loadW rfl rfl Try.underlying45 rfl k2 (m := 2) (by kernel_rfl) rfl) rfl rfl rfl ?_
  refine Seq.call (Enters.func rfl rfl rfl (run_enter Try.func32 (by kernel_rfl) rfl)) rfl rfl rfl (a1 _) ?_
  rintro e wa ⟨rfl, hba⟩
  refine ⟨_, rfl, ?_⟩
  replace bel := bel.step hba
  replace k2 := k2.step hba
  replace k3 := k3.step hba
  replace hmp := hmp.step hba
  replace hmq := hmq.step hba
  replace hmr := hmr.step hba
  replace hms := hms.step hba
  replace k5 := k5.step hba
  replace k6 := k6.step hba
  replace k7 := k7.step hba
  replace k8 := k8.step hba
  refine Seq.val (Runs.move rfl rfl) rfl rfl rfl ?_
  refine Seq.val (Runs.extract rfl rfl rfl) rfl rfl rfl ?_
  refine Seq.val (Runs.extract rfl rfl rfl) rfl rfl rfl ?_
  refine Seq.alloc rfl (run_zero zero_api_Ratio) rfl rfl rfl ?_
  intro g9 w9 n9
  have e9 := Nat.le_trans bel.size n9.ge
  have l9 := Nat.lt_of_lt_of_le k8.lt n9.ge
  have l9_k2 := Nat.lt_of_lt_of_le k2.lt n9.ge
  have l9_k3 := Nat.lt_of_lt_of_le k3.lt n9.ge
  have l9_k5 := Nat.lt_of_lt_of_le k5.lt n9.ge
  have l9_k6 := Nat.lt_of_lt_of_le k6.lt n9.ge
  have l9_k7 := Nat.lt_of_lt_of_le k7.lt n9.ge
  replace bel := bel.step n9.below
  replace k2 := k2.step n9.below
  replace k3 := k3.step n9.below
  replace hmp := hmp.step n9.below
  replace hmq := hmq.step n9.below
  replace hmr := hmr.step n9.below
  replace hms := hms.step n9.below
  replace k5 := k5.step n9.below
  replace k6 := k6.step n9.below
  replace k7 := k7.step n9.below
  replace k8 := k8.step n9.below
  have k9 := n9.blk
  refine Seq.storeN rfl rfl rfl rfl (m := 2) (by kernel_rfl) rfl (by repeat' first | exact trivial | apply And.intro | rfl | assumption) k9 (by simp [Value.cells]) rfl rfl ?_
  intro w10 pw10
  replace bel := bel.put k9 pw10 e9
  replace k2 := k2.put pw10 (by omega)
  replace k3 := k3.put pw10 (by omega)
  replace hmp := hmp.put k9 pw10 e9
  replace hmq := hmq.put k9 pw10 e9
  replace hmr := hmr.put k9 pw10 e9
  replace hms := hms.put k9 pw10 e9
  replace k5 := k5.put pw10 (by omega)
  replace k6 := k6.put pw10 (by omega)
  replace k7 := k7.put pw10 (by omega)
  replace k8 := k8.put pw10 (by omega)
  replace k9 := pw10.blk
  refine Seq.val (Runs.assign rfl rfl) rfl rfl rfl ?_
  refine Seq.nil ?_
  refine Post.weak (F' := [(0, _), (1, _), (2, _), (3, _), (4, _), (5, _), (6, _), (7, _), (8, _), (9, _), (10, _)]) ⟨rfl, rfl, rfl, rfl, rfl, rfl, rfl, rfl, rfl, rfl, rfl, trivial⟩ ?_
  refine Post.then_ ?_
  refine Cd.seq ?_
  refine Cd.region ?_
  refine Seq.val (Runs.loadW rfl rfl Try.underlying45 rfl k2 (m := 2) (by kernel_rfl) rfl) rfl rfl rfl ?_
  refine Seq.val (Runs.loadW rfl rfl Try.underlying45 rfl k3 (m := 2) (by kernel_rfl) rfl) rfl rfl rfl ?_
  refine Seq.call (Enters.func rfl rfl rfl (run_enter Try.func33 (by kernel_rfl) rfl)) rfl rfl rfl (a2 _) ?_
  rintro e wb ⟨rfl, hbb⟩
  refine ⟨_, rfl, ?_⟩
  replace bel := bel.step hbb
  replace k2 := k2.step hbb
  replace k3 := k3.step hbb
  replace hmp := hmp.step hbb
  replace hmq := hmq.step hbb
  replace hmr := hmr.step hbb
  replace hms := hms.step hbb
  replace k5 := k5.step hbb
  replace k6 := k6.step hbb
  replace k7 := k7.step hbb
  replace k8 := k8.step hbb
  replace k9 := k9.step hbb
  refine Seq.val (Runs.move rfl rfl) rfl rfl rfl ?_
  refine Seq.val (Runs.extract rfl rfl rfl) rfl rfl rfl ?_
  refine Seq.val (Runs.extract rfl rfl rfl) rfl rfl rfl ?_
  refine Seq.alloc rfl (run_zero zero_api_Ratio) rfl rfl rfl ?_
  intro g11 w11 n11
  have e11 := Nat.le_trans bel.size n11.ge
  have l11 := Nat.lt_of_lt_of_le k9.lt n11.ge
  have l11_k2 := Nat.lt_of_lt_of_le k2.lt n11.ge
  have l11_k3 := Nat.lt_of_lt_of_le k3.lt n11.ge
  have l11_k5 := Nat.lt_of_lt_of_le k5.lt n11.ge
  have l11_k6 := Nat.lt_of_lt_of_le k6.lt n11.ge
  have l11_k7 := Nat.lt_of_lt_of_le k7.lt n11.ge
  have l11_k8 := Nat.lt_of_lt_of_le k8.lt n11.ge
  replace bel := bel.step n11.below
  replace k2 := k2.step n11.below
  replace k3 := k3.step n11.below
  replace hmp := hmp.step n11.below
  replace hmq := hmq.step n11.below
  replace hmr := hmr.step n11.below
  replace hms := hms.step n11.below
  replace k5 := k5.step n11.below
  replace k6 := k6.step n11.below
  replace k7 := k7.step n11.below
  replace k8 := k8.step n11.below
  replace k9 := k9.step n11.below
  have k11 := n11.blk
  refine Seq.storeN rfl rfl rfl rfl (m := 2) (by kernel_rfl) rfl (by repeat' first | exact trivial | apply And.intro | rfl | assumption) k11 (by simp [Value.cells]) rfl rfl ?_
  intro w12 pw12
  replace bel := bel.put k11 pw12 e11
  replace k2 := k2.put pw12 (by omega)
  replace k3 := k3.put pw12 (by omega)
  replace hmp := hmp.put k11 pw12 e11
  replace hmq := hmq.put k11 pw12 e11
  replace hmr := hmr.put k11 pw12 e11
  replace hms := hms.put k11 pw12 e11
  replace k5 := k5.put pw12 (by omega)
  replace k6 := k6.put pw12 (by omega)
  replace k7 := k7.put pw12 (by omega)
  replace k8 := k8.put pw12 (by omega)
  replace k9 := k9.put pw12 (by omega)
  replace k11 := pw12.blk
  refine Seq.val (Runs.assign rfl rfl) rfl rfl rfl ?_
  refine Seq.nil ?_
  refine Post.weak (F' := [(0, _), (1, _), (2, _), (3, _), (4, _), (5, _), (6, _), (7, _), (8, _), (9, _), (10, _), (11, _), (12, _)]) ⟨rfl, rfl, rfl, rfl, rfl, rfl, rfl, rfl, rfl, rfl, rfl, rfl, rfl, trivial⟩ ?_
  refine Post.then_ ?_
  refine Cd.seq ?_
  refine Cd.region ?_
  refine Seq.val (Runs.loadW rfl rfl Try.underlying45 rfl k2 (m := 2) (by kernel_rfl) rfl) rfl rfl rfl ?_
  refine Seq.val (Runs.loadW rfl rfl Try.underlying45 rfl k3 (m := 2) (by kernel_rfl) rfl) rfl rfl rfl ?_
  refine Seq.call (Enters.func rfl rfl rfl (run_enter Try.func34 (by kernel_rfl) rfl)) rfl rfl rfl (a3 _) ?_
  rintro e wc ⟨rfl, hbc⟩
  refine ⟨_, rfl, ?_⟩
  replace bel := bel.step hbc
  replace k2 := k2.step hbc
  replace k3 := k3.step hbc
  replace hmp := hmp.step hbc
  replace hmq := hmq.step hbc
  replace hmr := hmr.step hbc
  replace hms := hms.step hbc
  replace k5 := k5.step hbc
  replace k6 := k6.step hbc
  replace k7 := k7.step hbc
  replace k8 := k8.step hbc
  replace k9 := k9.step hbc
  replace k11 := k11.step hbc
  refine Seq.val (Runs.move rfl rfl) rfl rfl rfl ?_
  refine Seq.val (Runs.extract rfl rfl rfl) rfl rfl rfl ?_
  refine Seq.val (Runs.extract rfl rfl rfl) rfl rfl rfl ?_
  refine Seq.alloc rfl (run_zero zero_api_Ratio) rfl rfl rfl ?_
  intro g13 w13 n13
  have e13 := Nat.le_trans bel.size n13.ge
  have l13 := Nat.lt_of_lt_of_le k11.lt n13.ge
  have l13_k2 := Nat.lt_of_lt_of_le k2.lt n13.ge
  have l13_k3 := Nat.lt_of_lt_of_le k3.lt n13.ge
  have l13_k5 := Nat.lt_of_lt_of_le k5.lt n13.ge
  have l13_k6 := Nat.lt_of_lt_of_le k6.lt n13.ge
  have l13_k7 := Nat.lt_of_lt_of_le k7.lt n13.ge
  have l13_k8 := Nat.lt_of_lt_of_le k8.lt n13.ge
  have l13_k9 := Nat.lt_of_lt_of_le k9.lt n13.ge
  replace bel := bel.step n13.below
  replace k2 := k2.step n13.below
  replace k3 := k3.step n13.below
  replace hmp := hmp.step n13.below
  replace hmq := hmq.step n13.below
  replace hmr := hmr.step n13.below
  replace hms := hms.step n13.below
  replace k5 := k5.step n13.below
  replace k6 := k6.step n13.below
  replace k7 := k7.step n13.below
  replace k8 := k8.step n13.below
  replace k9 := k9.step n13.below
  replace k11 := k11.step n13.below
  have k13 := n13.blk
  refine Seq.storeN rfl rfl rfl rfl (m := 2) (by kernel_rfl) rfl (by repeat' first | exact trivial | apply And.intro | rfl | assumption) k13 (by simp [Value.cells]) rfl rfl ?_
  intro w14 pw14
  replace bel := bel.put k13 pw14 e13
  replace k2 := k2.put pw14 (by omega)
  replace k3 := k3.put pw14 (by omega)
  replace hmp := hmp.put k13 pw14 e13
  replace hmq := hmq.put k13 pw14 e13
  replace hmr := hmr.put k13 pw14 e13
  replace hms := hms.put k13 pw14 e13
  replace k5 := k5.put pw14 (by omega)
  replace k6 := k6.put pw14 (by omega)
  replace k7 := k7.put pw14 (by omega)
  replace k8 := k8.put pw14 (by omega)
  replace k9 := k9.put pw14 (by omega)
  replace k11 := k11.put pw14 (by omega)
  replace k13 := pw14.blk
  refine Seq.val (Runs.assign rfl rfl) rfl rfl rfl ?_
  refine Seq.nil ?_
  refine Post.weak (F' := [(0, _), (1, _), (2, _), (3, _), (4, _), (5, _), (6, _), (7, _), (8, _), (9, _), (10, _), (11, _), (12, _), (13, _), (14, _)]) ⟨rfl, rfl, rfl, rfl, rfl, rfl, rfl, rfl, rfl, rfl, rfl, rfl, rfl, rfl, rfl, trivial⟩ ?_
  refine Post.then_ ?_
  refine Cd.seq ?_
  refine Cd.region ?_
  refine Seq.val (Runs.loadW rfl rfl Try.underlying31 rfl k5 (m := 2) (by kernel_rfl) rfl) rfl rfl rfl ?_
  refine Seq.val (Runs.loadW rfl rfl Try.underlying31 rfl k6 (m := 2) (by kernel_rfl) rfl) rfl rfl rfl ?_
  refine Seq.call (Enters.func rfl rfl rfl (run_enter Try.func35 (by kernel_rfl) rfl)) rfl rfl rfl (b1 _ _ _ ⟨_, rfl, hmp.mag⟩ ⟨_, rfl, hmq.mag⟩) ?_
  rintro e wd ⟨rfl, hbd⟩
  refine ⟨_, rfl, ?_⟩
  replace bel := bel.step hbd
  replace k2 := k2.step hbd
  replace k3 := k3.step hbd
  replace hmp := hmp.step hbd
  replace hmq := hmq.step hbd
  replace hmr := hmr.step hbd
  replace hms := hms.step hbd
  replace k5 := k5.step hbd
  replace k6 := k6.step hbd
  replace k7 := k7.step hbd
  replace k8 := k8.step hbd
  replace k9 := k9.step hbd
  replace k11 := k11.step hbd
  replace k13 := k13.step hbd
  refine Seq.val (Runs.move rfl rfl) rfl rfl rfl ?_
  refine Seq.val (Runs.extract rfl rfl rfl) rfl rfl rfl ?_
  refine Seq.val (Runs.extract rfl rfl rfl) rfl rfl rfl ?_
  refine Seq.alloc rfl (run_zero zero_api_Ratio) rfl rfl rfl ?_
  intro g15 w15 n15
  have e15 := Nat.le_trans bel.size n15.ge
  have l15 := Nat.lt_of_lt_of_le k13.lt n15.ge
  have l15_k2 := Nat.lt_of_lt_of_le k2.lt n15.ge
  have l15_k3 := Nat.lt_of_lt_of_le k3.lt n15.ge
  have l15_k5 := Nat.lt_of_lt_of_le k5.lt n15.ge
  have l15_k6 := Nat.lt_of_lt_of_le k6.lt n15.ge
  have l15_k7 := Nat.lt_of_lt_of_le k7.lt n15.ge
  have l15_k8 := Nat.lt_of_lt_of_le k8.lt n15.ge
  have l15_k9 := Nat.lt_of_lt_of_le k9.lt n15.ge
  have l15_k11 := Nat.lt_of_lt_of_le k11.lt n15.ge
  replace bel := bel.step n15.below
  replace k2 := k2.step n15.below
  replace k3 := k3.step n15.below
  replace hmp := hmp.step n15.below
  replace hmq := hmq.step n15.below
  replace hmr := hmr.step n15.below
  replace hms := hms.step n15.below
  replace k5 := k5.step n15.below
  replace k6 := k6.step n15.below
  replace k7 := k7.step n15.below
  replace k8 := k8.step n15.below
  replace k9 := k9.step n15.below
  replace k11 := k11.step n15.below
  replace k13 := k13.step n15.below
  have k15 := n15.blk
  refine Seq.storeN rfl rfl rfl rfl (m := 2) (by kernel_rfl) rfl (by repeat' first | exact trivial | apply And.intro | rfl | assumption) k15 (by simp [Value.cells]) rfl rfl ?_
  intro w16 pw16
  replace bel := bel.put k15 pw16 e15
  replace k2 := k2.put pw16 (by omega)
  replace k3 := k3.put pw16 (by omega)
  replace hmp := hmp.put k15 pw16 e15
  replace hmq := hmq.put k15 pw16 e15
  replace hmr := hmr.put k15 pw16 e15
  replace hms := hms.put k15 pw16 e15
  replace k5 := k5.put pw16 (by omega)
  replace k6 := k6.put pw16 (by omega)
  replace k7 := k7.put pw16 (by omega)
  replace k8 := k8.put pw16 (by omega)
  replace k9 := k9.put pw16 (by omega)
  replace k11 := k11.put pw16 (by omega)
  replace k13 := k13.put pw16 (by omega)
  replace k15 := pw16.blk
  refine Seq.val (Runs.assign rfl rfl) rfl rfl rfl ?_
  refine Seq.nil ?_
  refine Post.weak (F' := [(0, _), (1, _), (2, _), (3, _), (4, _), (5, _), (6, _), (7, _), (8, _), (9, _), (10, _), (11, _), (12, _), (13, _), (14, _), (15, _), (16, _)]) ⟨rfl, rfl, rfl, rfl, rfl, rfl, rfl, rfl, rfl, rfl, rfl, rfl, rfl, rfl, rfl, rfl, rfl, trivial⟩ ?_
  refine Post.then_ ?_
  refine Cd.seq ?_
  refine Cd.draw 15 (by kernel_rfl) [13] (.inr (fun _ _ d _ _ h => by cases d <;> exact h)) rfl Grow Grow.refl (fun _ _ _ => Grow.trans) ?_
  intro w17 hw17 zw17
  replace bel := bel.step hw17
  replace k2 := k2.step hw17
  replace k3 := k3.step hw17
  replace hmp := hmp.step hw17
  replace hmq := hmq.step hw17
  replace hmr := hmr.step hw17
  replace hms := hms.step hw17
  replace k5 := k5.step hw17
  replace k6 := k6.step hw17
  replace k7 := k7.step hw17
  replace k8 := k8.step hw17
  replace k9 := k9.step hw17
  replace k11 := k11.step hw17
  replace k13 := k13.step hw17
  replace k15 := k15.step hw17
  have zbel := bel.size
  have zlt := k15.lt
  refine Dr.val Grow.refl rfl (fun w hG => Runs.loadW rfl rfl Try.underlying31 rfl (k5.step hG) (m := 2) (by kernel_rfl) rfl) rfl ?_
  refine Dr.val Grow.refl rfl (fun w hG => Runs.loadW rfl rfl Try.underlying31 rfl (k8.step hG) (m := 2) (by kernel_rfl) rfl) rfl ?_
  refine Dr.call (Φ := fun v w => BigR w v (p * s)) rfl (fun w => Enters.func rfl rfl rfl (run_enter Try.func28 (by kernel_rfl) rfl)) rfl (BigR.stable _) (fun w hG => times_grow _ _ p s _ ⟨_, rfl, hmp.mag.step hG⟩ ⟨_, rfl, hms.mag.step hG⟩ hp.big hs.big) ?_
  refine Dr.val Grow.refl rfl (fun w hG => Runs.loadW rfl rfl Try.underlying31 rfl (k7.step hG) (m := 2) (by kernel_rfl) rfl) rfl ?_
  refine Dr.val Grow.refl rfl (fun w hG => Runs.loadW rfl rfl Try.underlying31 rfl (k6.step hG) (m := 2) (by kernel_rfl) rfl) rfl ?_
  refine Dr.call (Φ := fun v w => BigR w v (r * q)) rfl (fun w => Enters.func rfl rfl rfl (run_enter Try.func28 (by kernel_rfl) rfl)) rfl (BigR.stable _) (fun w hG => times_grow _ _ r q _ ⟨_, rfl, hmr.mag.step hG⟩ ⟨_, rfl, hmq.mag.step hG⟩ hr.big hq.big) ?_
  refine Dr.call2 (j := 2) (j' := 5) (Φ := fun v w => BigR w v (p * s + r * q)) rfl rfl rfl rfl rfl (fun u u' w => Enters.func rfl rfl rfl (run_enter Try.func26 (by kernel_rfl) rfl)) rfl (BigR.stable _) (fun u u' w hG hu hu' => plus_big _ _ (p * s) (r * q) _ hu hu' hps hrq) ?_
  refine Dr.val Grow.refl rfl (fun w hG => Runs.loadW rfl rfl Try.underlying31 rfl (k6.step hG) (m := 2) (by kernel_rfl) rfl) rfl ?_
  refine Dr.val Grow.refl rfl (fun w hG => Runs.loadW rfl rfl Try.underlying31 rfl (k8.step hG) (m := 2) (by kernel_rfl) rfl) rfl ?_
  refine Dr.call (Φ := fun v w => BigR w v (q * s)) rfl (fun w => Enters.func rfl rfl rfl (run_enter Try.func28 (by kernel_rfl) rfl)) rfl (BigR.stable _) (fun w hG => times_grow _ _ q s _ ⟨_, rfl, hmq.mag.step hG⟩ ⟨_, rfl, hms.mag.step hG⟩ hq.big hs.big) ?_
  refine Dr.call2V (j := 6) (j' := 9) rfl rfl rfl rfl rfl (fun u u' w => Enters.func rfl rfl rfl (run_enter Try.func35 (by kernel_rfl) rfl)) rfl (fun u u' w hG hu hu' => b2 _ _ _ hu hu') ?_
  refine Dr.val Grow.refl rfl (fun w hG => Runs.move rfl rfl) rfl ?_
  refine Dr.val Grow.refl rfl (fun w hG => Runs.extract rfl rfl rfl) rfl ?_
  refine Dr.late rfl rfl (fun w => Runs.extract rfl rfl rfl) Grow.refl rfl ?_
  refine Dr.alloc rfl rfl (run_zero zero_api_Ratio) rfl ?_
  refine Dr.nil ?_
  refine FinX.open (j := 14) rfl ?_
  intro u14
  refine FinX.done (F' := [(0, _), (1, _), (2, _), (3, _), (4, _), (5, _), (6, _), (7, _), (8, _), (9, _), (10, _), (11, _), (12, _), (13, _), (14, _), (15, _), (16, _), (17, _), (68, _), (69, _)]) rfl ⟨rfl, rfl, rfl, rfl, rfl, rfl, rfl, rfl, rfl, rfl, rfl, rfl, rfl, rfl, rfl, rfl, rfl, rfl, rfl, rfl, trivial⟩ ?_
  intro w18 hw18 fw18
  replace bel := bel.step hw18
  replace k2 := k2.step hw18
  replace k3 := k3.step hw18
  replace hmp := hmp.step hw18
  replace hmq := hmq.step hw18
  replace hmr := hmr.step hw18
  replace hms := hms.step hw18
  replace k5 := k5.step hw18
  replace k6 := k6.step hw18
  replace k7 := k7.step hw18
  replace k8 := k8.step hw18
  replace k9 := k9.step hw18
  replace k11 := k11.step hw18
  replace k13 := k13.step hw18
  replace k15 := k15.step hw18
  obtain ⟨-, g17, rfl, k17, e17⟩ := (by assumption : True ∧ NewPtr _ _ _ _ _)
  have l17 := Nat.lt_of_lt_of_le zlt e17
  replace e17 := Nat.le_trans zbel e17
  refine Seq.storeN rfl rfl rfl rfl (m := 2) (by kernel_rfl) rfl (by repeat' first | exact trivial | apply And.intro | rfl | assumption) k17 (by simp [Value.cells]) rfl rfl ?_
  intro w19 pw19
  replace bel := bel.put k17 pw19 e17
  replace k2 := k2.put pw19 (by omega)
  replace k3 := k3.put pw19 (by omega)
  replace hmp := hmp.put k17 pw19 e17
  replace hmq := hmq.put k17 pw19 e17
  replace hmr := hmr.put k17 pw19 e17
  replace hms := hms.put k17 pw19 e17
  replace k5 := k5.put pw19 (by omega)
  replace k6 := k6.put pw19 (by omega)
  replace k7 := k7.put pw19 (by omega)
  replace k8 := k8.put pw19 (by omega)
  replace k9 := k9.put pw19 (by omega)
  replace k11 := k11.put pw19 (by omega)
  replace k13 := k13.put pw19 (by omega)
  replace k15 := k15.put pw19 (by omega)
  replace k17 := pw19.blk
  refine Seq.val (Runs.assign rfl rfl) rfl rfl rfl ?_
  refine Seq.nil ?_
  refine Post.weak (F' := [(0, _), (1, _), (2, _), (3, _), (4, _), (5, _), (6, _), (7, _), (8, _), (9, _), (10, _), (11, _), (12, _), (13, _), (14, _), (15, _), (16, _), (17, _), (18, _)]) ⟨rfl, rfl, rfl, rfl, rfl, rfl, rfl, rfl, rfl, rfl, rfl, rfl, rfl, rfl, rfl, rfl, rfl, rfl, rfl, trivial⟩ ?_
  refine Post.then_ ?_
  refine Cd.seq ?_
  refine Cd.draw 11 (by kernel_rfl) [9] (.inr (fun _ _ d _ _ h => by cases d <;> exact h)) rfl Grow Grow.refl (fun _ _ _ => Grow.trans) ?_
  intro w20 hw20 zw20
  replace bel := bel.step hw20
  replace k2 := k2.step hw20
  replace k3 := k3.step hw20
  replace hmp := hmp.step hw20
  replace hmq := hmq.step hw20
  replace hmr := hmr.step hw20
  replace hms := hms.step hw20
  replace k5 := k5.step hw20
  replace k6 := k6.step hw20
  replace k7 := k7.step hw20
  replace k8 := k8.step hw20
  replace k9 := k9.step hw20
  replace k11 := k11.step hw20
  replace k13 := k13.step hw20
  replace k15 := k15.step hw20
  replace k17 := k17.step hw20
  have zbel := bel.size
  have zlt := k17.lt
  refine Dr.val Grow.refl rfl (fun w hG => Runs.loadW rfl rfl Try.underlying31 rfl (k5.step hG) (m := 2) (by kernel_rfl) rfl) rfl ?_
  refine Dr.val Grow.refl rfl (fun w hG => Runs.loadW rfl rfl Try.underlying31 rfl (k7.step hG) (m := 2) (by kernel_rfl) rfl) rfl ?_
  refine Dr.call (Φ := fun v w => BigR w v (p * r)) rfl (fun w => Enters.func rfl rfl rfl (run_enter Try.func28 (by kernel_rfl) rfl)) rfl (BigR.stable _) (fun w hG => times_grow _ _ p r _ ⟨_, rfl, hmp.mag.step hG⟩ ⟨_, rfl, hmr.mag.step hG⟩ hp.big hr.big) ?_
  refine Dr.val Grow.refl rfl (fun w hG => Runs.loadW rfl rfl Try.underlying31 rfl (k6.step hG) (m := 2) (by kernel_rfl) rfl) rfl ?_
  refine Dr.val Grow.refl rfl (fun w hG => Runs.loadW rfl rfl Try.underlying31 rfl (k8.step hG) (m := 2) (by kernel_rfl) rfl) rfl ?_
  refine Dr.call (Φ := fun v w => BigR w v (q * s)) rfl (fun w => Enters.func rfl rfl rfl (run_enter Try.func28 (by kernel_rfl) rfl)) rfl (BigR.stable _) (fun w hG => times_grow _ _ q s _ ⟨_, rfl, hmq.mag.step hG⟩ ⟨_, rfl, hms.mag.step hG⟩ hq.big hs.big) ?_
  refine Dr.call2V (j := 2) (j' := 5) rfl rfl rfl rfl rfl (fun u u' w => Enters.func rfl rfl rfl (run_enter Try.func35 (by kernel_rfl) rfl)) rfl (fun u u' w hG hu hu' => b3 _ _ _ hu hu') ?_
  refine Dr.val Grow.refl rfl (fun w hG => Runs.move rfl rfl) rfl ?_
  refine Dr.val Grow.refl rfl (fun w hG => Runs.extract rfl rfl rfl) rfl ?_
  refine Dr.late rfl rfl (fun w => Runs.extract rfl rfl rfl) Grow.refl rfl ?_
  refine Dr.alloc rfl rfl (run_zero zero_api_Ratio) rfl ?_
  refine Dr.nil ?_
  refine FinX.open (j := 10) rfl ?_
  intro u10
  refine FinX.done (F' := [(0, _), (1, _), (2, _), (3, _), (4, _), (5, _), (6, _), (7, _), (8, _), (9, _), (10, _), (11, _), (12, _), (13, _), (14, _), (15, _), (16, _), (17, _), (18, _), (19, _), (78, _), (79, _)]) rfl ⟨rfl, rfl, rfl, rfl, rfl, rfl, rfl, rfl, rfl, rfl, rfl, rfl, rfl, rfl, rfl, rfl, rfl, rfl, rfl, rfl, rfl, rfl, trivial⟩ ?_
  intro w21 hw21 fw21
  replace bel := bel.step hw21
  replace k2 := k2.step hw21
  replace k3 := k3.step hw21
  replace hmp := hmp.step hw21
  replace hmq := hmq.step hw21
  replace hmr := hmr.step hw21
  replace hms := hms.step hw21
  replace k5 := k5.step hw21
  replace k6 := k6.step hw21
  replace k7 := k7.step hw21
  replace k8 := k8.step hw21
  replace k9 := k9.step hw21
  replace k11 := k11.step hw21
  replace k13 := k13.step hw21
  replace k15 := k15.step hw21
  replace k17 := k17.step hw21
  obtain ⟨-, g19, rfl, k19, e19⟩ := (by assumption : True ∧ NewPtr _ _ _ _ _)
  have l19 := Nat.lt_of_lt_of_le zlt e19
  replace e19 := Nat.le_trans zbel e19
  refine Seq.storeN rfl rfl rfl rfl (m := 2) (by kernel_rfl) rfl (by repeat' first | exact trivial | apply And.intro | rfl | assumption) k19 (by simp [Value.cells]) rfl rfl ?_
  intro w22 pw22
  replace bel := bel.put k19 pw22 e19
  replace k2 := k2.put pw22 (by omega)
  replace k3 := k3.put pw22 (by omega)
  replace hmp := hmp.put k19 pw22 e19
  replace hmq := hmq.put k19 pw22 e19
  replace hmr := hmr.put k19 pw22 e19
  replace hms := hms.put k19 pw22 e19
  replace k5 := k5.put pw22 (by omega)
  replace k6 := k6.put pw22 (by omega)
  replace k7 := k7.put pw22 (by omega)
  replace k8 := k8.put pw22 (by omega)
  replace k9 := k9.put pw22 (by omega)
  replace k11 := k11.put pw22 (by omega)
  replace k13 := k13.put pw22 (by omega)
  replace k15 := k15.put pw22 (by omega)
  replace k17 := k17.put pw22 (by omega)
  replace k19 := pw22.blk
  refine Seq.val (Runs.assign rfl rfl) rfl rfl rfl ?_
  refine Seq.nil ?_
  refine Post.weak (F' := [(0, _), (1, _), (2, _), (3, _), (4, _), (5, _), (6, _), (7, _), (8, _), (9, _), (10, _), (11, _), (12, _), (13, _), (14, _), (15, _), (16, _), (17, _), (18, _), (19, _), (20, _)]) ⟨rfl, rfl, rfl, rfl, rfl, rfl, rfl, rfl, rfl, rfl, rfl, rfl, rfl, rfl, rfl, rfl, rfl, rfl, rfl, rfl, rfl, trivial⟩ ?_
  refine Post.then_ ?_
  refine Cd.seq ?_
  refine Cd.weak (F' := [(0, _), (1, _), (2, _), (3, _), (5, _), (6, _), (7, _), (8, _), (9, _), (10, _), (11, _), (12, _), (13, _), (14, _), (15, _), (16, _), (17, _), (18, _), (19, _), (20, _)]) ⟨rfl, rfl, rfl, rfl, rfl, rfl, rfl, rfl, rfl, rfl, rfl, rfl, rfl, rfl, rfl, rfl, rfl, rfl, rfl, rfl, trivial⟩ ?_
  refine Cd.draw 36 (by kernel_rfl) [] (.inl rfl) rfl Grow Grow.refl (fun _ _ _ => Grow.trans) ?_
  intro w23 hw23 zw23
  replace bel := bel.step hw23
  replace k2 := k2.step hw23
  replace k3 := k3.step hw23
  replace k9 := k9.step hw23
  replace k11 := k11.step hw23
  replace k13 := k13.step hw23
  replace k15 := k15.step hw23
  replace k17 := k17.step hw23
  replace k19 := k19.step hw23
  have zbel := bel.size
  have zlt := k19.lt
  refine Dr.val Grow.refl rfl (fun w hG => Runs.loadW rfl rfl Try.underlying45 rfl (k9.step hG) (m := 2) (by kernel_rfl) rfl) rfl ?_
  refine Dr.val Grow.refl rfl (fun w hG => Runs.move rfl rfl) rfl ?_
  refine Dr.val Grow.refl rfl (fun w hG => Runs.loadW rfl rfl Try.underlying45 rfl (k15.step hG) (m := 2) (by kernel_rfl) rfl) rfl ?_
  refine Dr.val Grow.refl rfl (fun w hG => Runs.move rfl rfl) rfl ?_
  refine Dr.callV rfl (fun w => Enters.func rfl rfl rfl (run_enter Try.func36 (by kernel_rfl) rfl)) rfl (fun w hG => same_self _ _ _ _) ?_
  refine Dr.val Grow.refl rfl (fun w hG => Runs.move rfl rfl) rfl ?_
  refine Dr.valG Grow.refl rfl (fun w hG => Runs.loadW rfl rfl Try.underlying45 rfl (k11.step hG) (m := 2) (by kernel_rfl) rfl) rfl rfl rfl ?_
  refine Dr.valG Grow.refl rfl (fun w hG => Runs.move rfl rfl) rfl rfl rfl ?_
  refine Dr.valG Grow.refl rfl (fun w hG => Runs.loadW rfl rfl Try.underlying45 rfl (k17.step hG) (m := 2) (by kernel_rfl) rfl) rfl rfl rfl ?_
  refine Dr.valG Grow.refl rfl (fun w hG => Runs.move rfl rfl) rfl rfl rfl ?_
  refine Dr.callVG rfl (fun w => Enters.func rfl rfl rfl (run_enter Try.func36 (by kernel_rfl) rfl)) rfl rfl rfl (fun w hG => same_self _ _ _ _) ?_
  refine Dr.val Grow.refl rfl (fun w hG => Runs.pickT rfl rfl rfl) rfl ?_
  refine Dr.val Grow.refl rfl (fun w hG => Runs.move rfl rfl) rfl ?_
  refine Dr.valG Grow.refl rfl (fun w hG => Runs.loadW rfl rfl Try.underlying45 rfl (k13.step hG) (m := 2) (by kernel_rfl) rfl) rfl rfl rfl ?_
  refine Dr.valG Grow.refl rfl (fun w hG => Runs.move rfl rfl) rfl rfl rfl ?_
  refine Dr.valG Grow.refl rfl (fun w hG => Runs.loadW rfl rfl Try.underlying45 rfl (k19.step hG) (m := 2) (by kernel_rfl) rfl) rfl rfl rfl ?_
  refine Dr.valG Grow.refl rfl (fun w hG => Runs.move rfl rfl) rfl rfl rfl ?_
  refine Dr.callVG rfl (fun w => Enters.func rfl rfl rfl (run_enter Try.func36 (by kernel_rfl) rfl)) rfl rfl rfl (fun w hG => same_self _ _ _ _) ?_
  refine Dr.val Grow.refl rfl (fun w hG => Runs.pickT rfl rfl rfl) rfl ?_
  refine Dr.val Grow.refl rfl (fun w hG => Runs.move rfl rfl) rfl ?_
  refine Dr.valG Grow.refl rfl (fun w hG => Runs.fieldB 0 rfl rfl Try.underlying45 rfl (by kernel_rfl)) rfl rfl rfl ?_
  refine Dr.valG Grow.refl rfl (fun w hG => Runs.loadB rfl rfl Try.underlying2 rfl (k2.step hG) rfl) rfl rfl rfl ?_
  refine Dr.valG Grow.refl rfl (fun w hG => Runs.fieldB 0 rfl rfl Try.underlying45 rfl (by kernel_rfl)) rfl rfl rfl ?_
  refine Dr.valG Grow.refl rfl (fun w hG => Runs.loadB rfl rfl Try.underlying2 rfl (k3.step hG) rfl) rfl rfl rfl ?_
  refine Dr.callVG rfl (fun w => Enters.func rfl rfl rfl (run_enter Try.func37 (by kernel_rfl) rfl)) rfl rfl rfl (fun w hG => qg1 _) ?_
  refine Dr.valG Grow.refl rfl (fun w hG => Runs.fieldB 0 rfl rfl Try.underlying45 rfl (by kernel_rfl)) rfl rfl rfl ?_
  refine Dr.valG Grow.refl rfl (fun w hG => Runs.loadB rfl rfl Try.underlying2 rfl (k2.step hG) rfl) rfl rfl rfl ?_
  refine Dr.valG Grow.refl rfl (fun w hG => Runs.fieldB 0 rfl rfl Try.underlying45 rfl (by kernel_rfl)) rfl rfl rfl ?_
  refine Dr.valG Grow.refl rfl (fun w hG => Runs.loadB rfl rfl Try.underlying2 rfl (k3.step hG) rfl) rfl rfl rfl ?_
  refine Dr.callVG rfl (fun w => Enters.func rfl rfl rfl (run_enter Try.func38 (by kernel_rfl) rfl)) rfl rfl rfl (fun w hG => qg2 _) ?_
  refine Dr.valG Grow.refl rfl (fun w hG => (Runs.eqlI rfl rfl rfl).isT (rfl)) rfl rfl rfl ?_
  refine Dr.val Grow.refl rfl (fun w hG => Runs.pickT rfl rfl rfl) rfl ?_
  refine Dr.val Grow.refl rfl (fun w hG => Runs.move rfl rfl) rfl ?_
  refine Dr.callVG rfl (fun w => Enters.func rfl rfl rfl (run_enter Try.func15 (by kernel_rfl) rfl)) rfl rfl rfl (fun w hG => awake_any _) ?_
  refine Dr.val Grow.refl rfl (fun w hG => Runs.pickT rfl rfl rfl) rfl ?_
  refine Dr.val Grow.refl rfl (fun w hG => Runs.assign rfl rfl) rfl ?_
  refine Dr.nil ?_
  refine FinX.done (F' := [(0, _), (1, _), (2, _), (3, _), (4, _), (5, _), (6, _), (7, _), (8, _), (9, _), (10, _), (11, _), (12, _), (13, _), (14, _), (15, _), (16, _), (17, _), (18, _), (19, _), (20, _)]) rfl ⟨rfl, rfl, rfl, rfl, rfl, rfl, rfl, rfl, rfl, rfl, rfl, rfl, rfl, rfl, rfl, rfl, rfl, rfl, rfl, rfl, rfl, trivial⟩ ?_
  intro w24 hw24 fw24
  replace bel := bel.step hw24
  replace k2 := k2.step hw24
  replace k3 := k3.step hw24
  replace k9 := k9.step hw24
  replace k11 := k11.step hw24
  replace k13 := k13.step hw24
  replace k15 := k15.step hw24
  replace k17 := k17.step hw24
  replace k19 := k19.step hw24
  refine Seq.nil ?_
  refine Post.weak (F' := [(0, _), (1, _), (2, _), (3, _), (4, _), (5, _), (6, _), (7, _), (8, _), (9, _), (10, _), (11, _), (12, _), (13, _), (14, _), (15, _), (16, _), (17, _), (18, _), (19, _), (20, _)]) ⟨rfl, rfl, rfl, rfl, rfl, rfl, rfl, rfl, rfl, rfl, rfl, rfl, rfl, rfl, rfl, rfl, rfl, rfl, rfl, rfl, rfl, trivial⟩ ?_
  refine Post.then_ ?_
  refine Cd.ret ?_
  refine Post.end1 rfl rfl (.inl rfl) ?_
  exact ⟨rfl, bel⟩

namespace NumRatios
theorem own : ownKnob Try.prog.godebug = none := by kernel_rfl
theorem laidOut : laidOutB Try.prog = true := by kernel_rfl
set_option maxRecDepth 100000 in
theorem lifted (os : Os) (started : os.Started) (H : Type) (enc : TypeId × Value → H) :
    ReturnsInHanded {} Try.checked os 10 .any (Rows.numRatiosSpec.pre6 enc Try.prog Try.f10 Rows.numRatiosRow.domain false) (Rows.numRatiosSpec.post enc Try.prog Try.f10 false true false false) := by
  refine returnsInHanded_of_change (C := Try.checked) own started (by kernel_rfl) Try.func10
    (ChangeSpec.witness6 (enc := enc) (C := Try.checked) false ⟨#[], #[.agg #[.int .i64 0, .int .i64 0], .agg #[.int .i64 0, .int .i64 0]], []⟩ 8 (by kernel_rfl) (by kernel_rfl) (by kernel_rfl) (by kernel_rfl)) ?_
  intro W base args ds gs before hval0 hW hcnd _
  have hval : ∀ (j : Nat) t v, Try.f10.params[j]? = some t → args[j]? = some v → Value.okWide Try.prog W .any base t v := hval0
  have hW' := hW
  obtain ⟨p, q, hA0, hV, rfl, hfz, hnd⟩ := hW
  have hA : DataW.TrodAll enc Try.prog W 0 (fun _ => true) true Try.f10.params.toList args.toList ds p := hA0
  rw [Try.params10] at hA hval
  obtain ⟨v0, vs0, d0, ds0, p0, q0, hargs, rfl, rfl, h0, r0⟩ := trodAll_cons hA
  obtain ⟨v1, vs1, d1, ds1, p1, q1, rfl, rfl, rfl, h1, r1⟩ := trodAll_cons r0
  obtain ⟨rfl, rfl, rfl⟩ := trodAll_nil r1
  obtain rfl : args = #[v0, v1] := by cases args; simp_all
  obtain ⟨rfl, rfl⟩ := trodVars_none hV
  have k0 := h0
  have lt0 : ∀ x ∈ p0, x.block < W.heap.size := by obtain ⟨m, hm⟩ := k0; exact DataW.trod_lt m _ _ _ hm
  have k1 := h1
  have lt1 : ∀ x ∈ p1, x.block < W.heap.size := by obtain ⟨m, hm⟩ := k1; exact DataW.trod_lt m _ _ _ hm
  obtain ⟨p, q, rfl, hp, hq⟩ := open_ratio (hval 0 _ v0 rfl rfl) h0
  obtain ⟨r, s, rfl, hr, hs⟩ := open_ratio (hval 1 _ v1 rfl rfl) h1
  clear hA0 hval0
  refine (walk_ratios p q r s W hp hq hr hs).mono fun e W' ⟨he, bel⟩ => ?_
  subst he
  exact ⟨_, rfl, _, _, _, [], _, [], hW', trodAll_mk1 (shut_bool Try.underlying4 _), (trodAll_cons_mk (Below.trod laidOut (by kernel_rfl) (of_decide_eq_true (by kernel_rfl)) k0 bel lt0) (trodAll_cons_mk (Below.trod laidOut (by kernel_rfl) (of_decide_eq_true (by kernel_rfl)) k1 bel lt1) trodAll_mk0)), rfl, bel.frame _, fun h => by cases h⟩

theorem over : Rows.numRatiosRow.holds Try.pinned (OpenSpec.ofChange Rows.numRatiosSpec) :=
  OpenClaim.holds_of_wide 10 Try.f10 rfl rfl rfl rfl rfl rfl rfl ⟨rfl, rfl, rfl, rfl, rfl⟩ rfl rfl rfl rfl rfl (by kernel_rfl) Try.func10 (by kernel_rfl)
    (of_decide_eq_true (by kernel_rfl)) (by unfold Func.isWrapper; first | (rw [if_pos (by decide +kernel)]; kernel_rfl) | (rw [if_neg (by decide +kernel)]; exact ⟨rfl, rfl⟩))
    (fun os started H enc _ => lifted os started H enc)

theorem proved : Rows.NumRatiosSaid := over

end NumRatios
end Go.Proofs.Ytpdeihienkbeeaa
