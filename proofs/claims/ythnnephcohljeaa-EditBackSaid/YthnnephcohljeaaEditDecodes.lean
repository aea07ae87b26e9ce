/-
  EditDecodes: any bytes' edit, or that there is none: the statement returns true. No condition.
-/
import Derived.Test.YthnnephcohljeaaEditJ
namespace Go.Proofs.Ythnnephcohljeaa
open Go.ChangeShapes Go.WideShapes Go.ChangeAt Go.Deep Go.RowKit

/-- What `is` answers. -/
def IsR (lg nx sq : Int) (A : Option Addr) (n c m B : Nat) (xs : List Value) (v : Value) (w : World) : Prop := ∃ A2 c2, v = .agg #[.int .i64 lg, .int .i64 nx, .int .i64 sq, .slice A n c, .slice A2 m c2] ∧ Own w B 23 6 (.slice A2 m c2) m xs
theorem IsR.stable {lg nx sq : Int} {A : Option Addr} {n c m B : Nat} {xs : List Value} : ∀ v w w', Grow w w' → IsR lg nx sq A n c m B xs v w → IsR lg nx sq A n c m B xs v w' := fun _ _ _ hG ⟨A2, c2, e, h⟩ => ⟨A2, c2, e, h.step hG⟩
theorem Own.rds {w : World} {B size n c : Nat} {A : Option Addr} {e : TypeId} {xs : List Value} (h : Own w B e size (.slice A n c) n xs) : Reads w w.heap.size size A n xs := by
  obtain ⟨A1, c1, hv1, hr1⟩ := h.reads
  injection hv1 with e1 _ _
  subst e1
  exact hr1
/-- An edit that was made, and one like it: the same. -/
theorem same_own (x : Ed) (A A' D D' : Option Addr) (c c' k k' B1 B2 B3 B4 : Nat) (w : World) (h1 : Own w B1 3 1 (.slice A x.drop.length c) x.drop.length (DNc x.drop)) (h2 : Own w B2 23 6 (.slice A' x.add.length c') x.add.length (Fc x.add)) (h3 : Own w B3 3 1 (.slice D x.drop.length k) x.drop.length (DNc x.drop)) (h4 : Own w B4 23 6 (.slice D' x.add.length k') x.add.length (Fc x.add)) (hn : x.drop.length ≤ 1000) (hm : x.add.length ≤ 1000) :
    Calls Try.prog 18 #[.agg #[.int .i64 x.lg, .int .i64 x.nx, .int .i64 x.sq, .slice A x.drop.length c, .slice A' x.add.length c'], .agg #[.int .i64 x.lg, .int .i64 x.nx, .int .i64 x.sq, .slice D x.drop.length k, .slice D' x.add.length k']] w fun e w' => e = .returned (.bool true) ∧ Grow w w' :=
  sameEdits_any x.lg x.nx x.sq w.heap.size _ _ c c' k k' A A' D D' (DN x.drop) (x.add.map Fn.fl) w h1.rds h2.rds h3.rds h4.rds (Nat.le_refl _) hn hm
theorem is_own (x : Ed) (A A' : Option Addr) (c c' B : Nat) (w : World) (h2 : Own w B 28 6 (.slice A' x.add.length c') x.add.length (Fc x.add)) (hm : x.add.length ≤ 101) (hB : B ≤ w.heap.size) :
    Calls Try.prog 19 #[.agg #[.int .i64 x.lg, .int .i64 x.nx, .int .i64 x.sq, .slice A x.drop.length c, .slice A' x.add.length c']] w fun e w' => ∃ v, e = .returned v ∧ Grow w w' ∧ IsR x.lg x.nx x.sq A x.drop.length c x.add.length B (Fc x.add) v w' :=
  (is_any x.lg x.nx x.sq w.heap.size x.drop.length x.add.length c c' A A' (x.add.map Fn.fl) w h2.rds (Nat.le_refl _) hm).mono fun e w' ⟨hg, A2, c2, e1, ho⟩ => ⟨_, e1, hg, A2, c2, rfl, ⟨own_base ho.row hB⟩⟩
def Ed0 : Ed := ⟨0, 0, 0, [], []⟩
theorem walk_decodes (s : List Nat) (W : World) (hs : Byt s) :
    Calls Try.prog 5 #[.string (strOf s)] W fun e w' => e = .returned (.bool true) ∧ Below W.heap.size W w' := by
  have bel := Below.refl W.heap.size W
  have hd := fun w => decode_any s w hs
  have hr := fun w => refDecode_any s w hs
  have hxl : ∀ x, decF s = some x → x.drop.length ≤ 100 ∧ x.add.length ≤ 100 := fun x h => by
    unfold decF at h
    split at h
    · split at h
      · rename_i hl
        injection h with h
        subst h
        obtain ⟨-, -, -, h4, h5, -, -⟩ := (laidB_iff ..).1 hl
        simp only [DN, List.length_map] at h4 h5
        exact ⟨h4, h5⟩
      · cases h
    · cases h
  refine Calls.start 43 Try.func5 rfl rfl rfl ?_
  refine Cd.seq ?_
  refine Cd.region ?_
  refine Seq.val (Runs.assign rfl rfl) rfl rfl rfl ?_
  refine Seq.nil ?_
  refine Post.weak (F' := [(0, _), (2, _)]) ⟨rfl, rfl, trivial⟩ ?_
  refine Post.then_ ?_
  refine Cd.seq ?_
  refine Cd.seq ?_
  refine Cd.region ?_
  refine Seq.val (Runs.move rfl rfl) rfl rfl rfl ?_
  refine Seq.val (Runs.lenL rfl rfl Try.underlying9) rfl rfl rfl ?_
  refine Seq.val (Runs.gtr rfl rfl rfl) rfl rfl rfl ?_
  refine Seq.nil ?_
  refine Post.weak (F' := [(0, _), (2, _), (9, _)]) ⟨rfl, rfl, rfl, trivial⟩ ?_
  refine Post.then_ ?_
  refine Cd.condD rfl (fun hc => ?_) (fun hc => ?_)
  · skip
    refine Cd.seq ?_
    refine Cd.region ?_
    refine Seq.call (Enters.func rfl rfl rfl (run_enter Try.func9 (by kernel_rfl) rfl)) rfl rfl rfl (awake12_any _) ?_
    rintro e w6 ⟨rfl, hb6⟩
    refine ⟨_, rfl, ?_⟩
    replace bel := bel.step hb6
    refine Seq.val (Runs.assign rfl rfl) rfl rfl rfl ?_
    refine Seq.nil ?_
    refine Post.weak (F' := [(0, _), (2, _), (9, _)]) ⟨rfl, rfl, rfl, trivial⟩ ?_
    refine Post.then_ ?_
    refine Cd.ret ?_
    refine Post.then_ret ?_
    refine Post.end1 rfl rfl (.inl rfl) ?_
    exact ⟨rfl, bel⟩
  · skip
    refine Cd.skip ?_
    refine Post.then_ ?_
    refine Cd.seq ?_
    refine Cd.region ?_
    refine Seq.val (Runs.move rfl rfl) rfl rfl rfl ?_
    cases hD : decF s with
    | none =>
      rw [hD] at hd hr
      have e0 : (if (none : Option Ed).isSome = true then (0 : Int) else 3) = 3 := rfl
      rw [e0] at hd
      refine Seq.call (Enters.func rfl rfl rfl (run_enter Try.func16 (by kernel_rfl) rfl)) rfl rfl rfl (hd _) ?_
      rintro e w5 ⟨⟨v, rfl, hv⟩, hb5⟩
      have hv : v = _ := hv
      subst hv
      refine ⟨_, rfl, ?_⟩
      replace bel := bel.step hb5
      refine Seq.val (Runs.move rfl rfl) rfl rfl rfl ?_
      refine Seq.val (Runs.extract rfl rfl rfl) rfl rfl rfl ?_
      refine Seq.val (Runs.extract rfl rfl rfl) rfl rfl rfl ?_
      refine Seq.alloc rfl (run_zero zero_edit_Edit) rfl rfl rfl ?_
      intro g3 w1 n3
      have e3 := Nat.le_trans bel.size n3.ge
      replace bel := bel.step n3.below
      have k3 := n3.blk
      refine Seq.storeN rfl rfl rfl rfl (m := 5) (by kernel_rfl) rfl (by repeat' first | exact trivial | apply And.intro | rfl | assumption) k3 (by simp [Value.cells]) rfl rfl ?_
      intro w2 pw2
      replace bel := bel.put k3 pw2 e3
      replace k3 := pw2.blk
      refine Seq.val (Runs.assign rfl rfl) rfl rfl rfl ?_
      refine Seq.nil ?_
      refine Post.weak (F' := [(0, _), (2, _), (3, _), (4, _), (9, _)]) ⟨rfl, rfl, rfl, rfl, rfl, trivial⟩ ?_
      refine Post.then_ ?_
      refine Cd.seq ?_
      refine Cd.region ?_
      refine Seq.val (Runs.move rfl rfl) rfl rfl rfl ?_
      refine Seq.call (Enters.func rfl rfl rfl (run_enter Try.func17 (by kernel_rfl) rfl)) rfl rfl rfl (hr _) ?_
      rintro e w6 ⟨⟨v, rfl, hv⟩, hb6⟩
      have hv : v = _ := hv
      subst hv
      refine ⟨_, rfl, ?_⟩
      replace bel := bel.step hb6
      replace k3 := k3.step hb6
      refine Seq.val (Runs.move rfl rfl) rfl rfl rfl ?_
      refine Seq.val (Runs.extract rfl rfl rfl) rfl rfl rfl ?_
      refine Seq.val (Runs.extract rfl rfl rfl) rfl rfl rfl ?_
      refine Seq.alloc rfl (run_zero zero_debentureref12_Edit) rfl rfl rfl ?_
      intro g5 w3 n5
      have e5 := Nat.le_trans bel.size n5.ge
      have l5 := Nat.lt_of_lt_of_le k3.lt n5.ge
      replace bel := bel.step n5.below
      replace k3 := k3.step n5.below
      have k5 := n5.blk
      refine Seq.storeN rfl rfl rfl rfl (m := 5) (by kernel_rfl) rfl (by repeat' first | exact trivial | apply And.intro | rfl | assumption) k5 (by simp [Value.cells]) rfl rfl ?_
      intro w4 pw4
      replace bel := bel.put k5 pw4 e5
      replace k3 := k3.put pw4 (by omega)
      replace k5 := pw4.blk
      refine Seq.val (Runs.assign rfl rfl) rfl rfl rfl ?_
      refine Seq.nil ?_
      refine Post.weak (F' := [(0, _), (2, _), (3, _), (4, _), (5, _), (6, _), (9, _)]) ⟨rfl, rfl, rfl, rfl, rfl, rfl, rfl, trivial⟩ ?_
      refine Post.then_ ?_
      refine Cd.seq ?_
      refine Cd.weak (F' := [(0, _), (3, _), (4, _), (5, _), (6, _), (9, _)]) ⟨rfl, rfl, rfl, rfl, rfl, rfl, trivial⟩ ?_
      refine Cd.draw 23 (by kernel_rfl) [] (.inl rfl) rfl Grow Grow.refl (fun _ _ _ => Grow.trans) ?_
      intro w5 hw5 zw5
      replace bel := bel.step hw5
      replace k3 := k3.step hw5
      replace k5 := k5.step hw5
      have zbel := bel.size
      have zlt := k5.lt
      refine Dr.val Grow.refl rfl (fun w hG => Runs.loadW rfl rfl Try.underlying38 rfl (k3.step hG) (m := 5) (by kernel_rfl) rfl) rfl ?_
      refine Dr.call (Φ := IsR 0 0 0 none 0 0 0 0 []) rfl (fun w => Enters.func rfl rfl rfl (run_enter Try.func19 (by kernel_rfl) rfl)) rfl (IsR.stable) (fun w hG => is_own Ed0 none none 0 0 0 w (Own.nil _ _ _ _) (by decide) (Nat.zero_le _)) ?_
      refine Dr.val Grow.refl rfl (fun w hG => Runs.loadW rfl rfl Try.underlying32 rfl (k5.step hG) (m := 5) (by kernel_rfl) rfl) rfl ?_
      refine Dr.call1V (j := 1) rfl rfl rfl (fun u w => Enters.func rfl rfl rfl (run_enter Try.func18 (by kernel_rfl) rfl)) rfl (fun u w hG hu => by obtain ⟨A2, c2, rfl, ho⟩ := hu; exact same_own Ed0 none A2 none none 0 c2 0 0 0 0 0 0 w (Own.nil _ _ _ _) ho (Own.nil _ _ _ _) (Own.nil _ _ _ _) (by decide) (by decide)) ?_
      refine Dr.val Grow.refl rfl (fun w hG => Runs.move rfl rfl) rfl ?_
      refine Dr.valG Grow.refl rfl (fun w hG => Runs.move rfl rfl) rfl rfl rfl ?_
      refine Dr.valG Grow.refl rfl (fun w hG => Runs.move rfl rfl) rfl rfl rfl ?_
      refine Dr.skip rfl rfl rfl rfl rfl ?_
      refine Dr.skip rfl rfl rfl rfl rfl ?_
      refine Dr.valG Grow.refl rfl (fun w hG => Runs.pickF rfl rfl rfl) rfl rfl rfl ?_
      refine Dr.valG Grow.refl rfl (fun w hG => Runs.move rfl rfl) rfl rfl rfl ?_
      refine Dr.valG Grow.refl rfl (fun w hG => Runs.move rfl rfl) rfl rfl rfl ?_
      refine Dr.valG Grow.refl rfl (fun w hG => Runs.not rfl rfl) rfl rfl rfl ?_
      refine Dr.valG Grow.refl rfl (fun w hG => Runs.move rfl rfl) rfl rfl rfl ?_
      refine Dr.valG Grow.refl rfl (fun w hG => Runs.move rfl rfl) rfl rfl rfl ?_
      refine Dr.valG Grow.refl rfl (fun w hG => Runs.eqlI rfl rfl rfl) rfl rfl rfl ?_
      refine Dr.valG Grow.refl rfl (fun w hG => Runs.pickT rfl rfl rfl) rfl rfl rfl ?_
      refine Dr.valG Grow.refl rfl (fun w hG => Runs.pickF rfl rfl rfl) rfl rfl rfl ?_
      refine Dr.val Grow.refl rfl (fun w hG => Runs.pickT rfl rfl rfl) rfl ?_
      refine Dr.val Grow.refl rfl (fun w hG => Runs.move rfl rfl) rfl ?_
      refine Dr.callVG rfl (fun w => Enters.func rfl rfl rfl (run_enter Try.func9 (by kernel_rfl) rfl)) rfl rfl rfl (fun w hG => awake12_any w) ?_
      refine Dr.val Grow.refl rfl (fun w hG => Runs.pickT rfl rfl rfl) rfl ?_
      refine Dr.val Grow.refl rfl (fun w hG => Runs.assign rfl rfl) rfl ?_
      refine Dr.nil ?_
      refine FinX.done (F' := [(0, _), (2, _), (3, _), (4, _), (5, _), (6, _), (9, _)]) rfl ⟨rfl, rfl, rfl, rfl, rfl, rfl, rfl, trivial⟩ ?_
      intro w6 hw6 fw6
      replace bel := bel.step hw6
      replace k3 := k3.step hw6
      replace k5 := k5.step hw6
      refine Seq.nil ?_
      refine Post.weak (F' := [(0, _), (2, _), (3, _), (4, _), (5, _), (6, _), (9, _)]) ⟨rfl, rfl, rfl, rfl, rfl, rfl, rfl, trivial⟩ ?_
      refine Post.then_ ?_
      refine Cd.ret ?_
      refine Post.end1 rfl rfl (.inl rfl) ?_
      exact ⟨rfl, bel⟩
    | some x =>
      obtain ⟨hxd, hxa⟩ := hxl x hD
      rw [hD] at hd hr
      have e0 : (if (some x).isSome = true then (0 : Int) else 3) = 0 := rfl
      rw [e0] at hd
      refine Seq.call (Enters.func rfl rfl rfl (run_enter Try.func16 (by kernel_rfl) rfl)) rfl rfl rfl (hd _) ?_
      rintro e w5 ⟨⟨v, rfl, A, cA, A', cA', rfl, own1, own2⟩, hb5⟩
      refine ⟨_, rfl, ?_⟩
      replace bel := bel.step hb5
      refine Seq.val (Runs.move rfl rfl) rfl rfl rfl ?_
      refine Seq.val (Runs.extract rfl rfl rfl) rfl rfl rfl ?_
      refine Seq.val (Runs.extract rfl rfl rfl) rfl rfl rfl ?_
      refine Seq.alloc rfl (run_zero zero_edit_Edit) rfl rfl rfl ?_
      intro g3 w1 n3
      have e3 := Nat.le_trans bel.size n3.ge
      replace bel := bel.step n3.below
      replace own1 := own1.step n3.below
      replace own2 := own2.step n3.below
      have k3 := n3.blk
      refine Seq.storeN rfl rfl rfl rfl (m := 5) (by kernel_rfl) rfl (by repeat' first | exact trivial | apply And.intro | rfl | assumption) k3 (by simp [Value.cells]) rfl rfl ?_
      intro w2 pw2
      replace bel := bel.put k3 pw2 e3
      replace own1 := own1.put k3 pw2 e3
      replace own2 := own2.put k3 pw2 e3
      replace k3 := pw2.blk
      refine Seq.val (Runs.assign rfl rfl) rfl rfl rfl ?_
      refine Seq.nil ?_
      refine Post.weak (F' := [(0, _), (2, _), (3, _), (4, _), (9, _)]) ⟨rfl, rfl, rfl, rfl, rfl, trivial⟩ ?_
      refine Post.then_ ?_
      refine Cd.seq ?_
      refine Cd.region ?_
      refine Seq.val (Runs.move rfl rfl) rfl rfl rfl ?_
      refine Seq.call (Enters.func rfl rfl rfl (run_enter Try.func17 (by kernel_rfl) rfl)) rfl rfl rfl (hr _) ?_
      rintro e w6 ⟨⟨v, rfl, D, cD, D', cD', rfl, own3, own4⟩, hb6⟩
      refine ⟨_, rfl, ?_⟩
      replace bel := bel.step hb6
      replace own1 := own1.step hb6
      replace own2 := own2.step hb6
      replace k3 := k3.step hb6
      refine Seq.val (Runs.move rfl rfl) rfl rfl rfl ?_
      refine Seq.val (Runs.extract rfl rfl rfl) rfl rfl rfl ?_
      refine Seq.val (Runs.extract rfl rfl rfl) rfl rfl rfl ?_
      refine Seq.alloc rfl (run_zero zero_debentureref12_Edit) rfl rfl rfl ?_
      intro g5 w3 n5
      have e5 := Nat.le_trans bel.size n5.ge
      have l5 := Nat.lt_of_lt_of_le k3.lt n5.ge
      replace bel := bel.step n5.below
      replace own1 := own1.step n5.below
      replace own2 := own2.step n5.below
      replace k3 := k3.step n5.below
      replace own3 := own3.step n5.below
      replace own4 := own4.step n5.below
      have k5 := n5.blk
      refine Seq.storeN rfl rfl rfl rfl (m := 5) (by kernel_rfl) rfl (by repeat' first | exact trivial | apply And.intro | rfl | assumption) k5 (by simp [Value.cells]) rfl rfl ?_
      intro w4 pw4
      replace bel := bel.put k5 pw4 e5
      replace own1 := own1.put k5 pw4 e5
      replace own2 := own2.put k5 pw4 e5
      replace k3 := k3.put pw4 (by omega)
      replace own3 := own3.put k5 pw4 e5
      replace own4 := own4.put k5 pw4 e5
      replace k5 := pw4.blk
      refine Seq.val (Runs.assign rfl rfl) rfl rfl rfl ?_
      refine Seq.nil ?_
      refine Post.weak (F' := [(0, _), (2, _), (3, _), (4, _), (5, _), (6, _), (9, _)]) ⟨rfl, rfl, rfl, rfl, rfl, rfl, rfl, trivial⟩ ?_
      refine Post.then_ ?_
      refine Cd.seq ?_
      refine Cd.weak (F' := [(0, _), (3, _), (4, _), (5, _), (6, _), (9, _)]) ⟨rfl, rfl, rfl, rfl, rfl, rfl, trivial⟩ ?_
      refine Cd.draw 23 (by kernel_rfl) [] (.inl rfl) rfl Grow Grow.refl (fun _ _ _ => Grow.trans) ?_
      intro w5 hw5 zw5
      replace bel := bel.step hw5
      replace own1 := own1.step hw5
      replace own2 := own2.step hw5
      replace k3 := k3.step hw5
      replace own3 := own3.step hw5
      replace own4 := own4.step hw5
      replace k5 := k5.step hw5
      have zbel := bel.size
      have zlt := k5.lt
      refine Dr.val Grow.refl rfl (fun w hG => Runs.loadW rfl rfl Try.underlying38 rfl (k3.step hG) (m := 5) (by kernel_rfl) rfl) rfl ?_
      refine Dr.call (Φ := IsR x.lg x.nx x.sq A x.drop.length cA x.add.length 0 (Fc x.add)) rfl (fun w => Enters.func rfl rfl rfl (run_enter Try.func19 (by kernel_rfl) rfl)) rfl (IsR.stable) (fun w hG => is_own x A A' cA cA' 0 w ⟨own_base (own2.step hG).row (Nat.zero_le _)⟩ (by omega) (Nat.zero_le _)) ?_
      refine Dr.val Grow.refl rfl (fun w hG => Runs.loadW rfl rfl Try.underlying32 rfl (k5.step hG) (m := 5) (by kernel_rfl) rfl) rfl ?_
      refine Dr.call1V (j := 1) rfl rfl rfl (fun u w => Enters.func rfl rfl rfl (run_enter Try.func18 (by kernel_rfl) rfl)) rfl (fun u w hG hu => by obtain ⟨A2, c2, rfl, ho⟩ := hu; exact same_own x A A2 D D' cA c2 cD cD' _ 0 _ _ w (own1.step hG) ho (own3.step hG) (own4.step hG) (by omega) (by omega)) ?_
      refine Dr.val Grow.refl rfl (fun w hG => Runs.move rfl rfl) rfl ?_
      refine Dr.valG Grow.refl rfl (fun w hG => Runs.move rfl rfl) rfl rfl rfl ?_
      refine Dr.valG Grow.refl rfl (fun w hG => Runs.move rfl rfl) rfl rfl rfl ?_
      refine Dr.valG Grow.refl rfl (fun w hG => Runs.move rfl rfl) rfl rfl rfl ?_
      refine Dr.valG Grow.refl rfl (fun w hG => Runs.eqlI rfl rfl rfl) rfl rfl rfl ?_
      refine Dr.valG Grow.refl rfl (fun w hG => Runs.pickT rfl rfl rfl) rfl rfl rfl ?_
      refine Dr.valG Grow.refl rfl (fun w hG => Runs.move rfl rfl) rfl rfl rfl ?_
      refine Dr.skip rfl rfl rfl rfl rfl ?_
      refine Dr.skip rfl rfl rfl rfl rfl ?_
      refine Dr.skip rfl rfl rfl rfl rfl ?_
      refine Dr.skipU rfl rfl rfl rfl ?_
      refine Dr.skipU rfl rfl rfl rfl ?_
      refine Dr.skip rfl rfl rfl rfl rfl ?_
      refine Dr.valG Grow.refl rfl (fun w hG => Runs.pickT rfl rfl rfl) rfl rfl rfl ?_
      refine Dr.val Grow.refl rfl (fun w hG => Runs.pickT rfl rfl rfl) rfl ?_
      refine Dr.val Grow.refl rfl (fun w hG => Runs.move rfl rfl) rfl ?_
      refine Dr.callVG rfl (fun w => Enters.func rfl rfl rfl (run_enter Try.func9 (by kernel_rfl) rfl)) rfl rfl rfl (fun w hG => awake12_any w) ?_
      refine Dr.val Grow.refl rfl (fun w hG => Runs.pickT rfl rfl rfl) rfl ?_
      refine Dr.val Grow.refl rfl (fun w hG => Runs.assign rfl rfl) rfl ?_
      refine Dr.nil ?_
      refine FinX.done (F' := [(0, _), (2, _), (3, _), (4, _), (5, _), (6, _), (9, _)]) rfl ⟨rfl, rfl, rfl, rfl, rfl, rfl, rfl, trivial⟩ ?_
      intro w6 hw6 fw6
      replace bel := bel.step hw6
      replace own1 := own1.step hw6
      replace own2 := own2.step hw6
      replace k3 := k3.step hw6
      replace own3 := own3.step hw6
      replace own4 := own4.step hw6
      replace k5 := k5.step hw6
      refine Seq.nil ?_
      refine Post.weak (F' := [(0, _), (2, _), (3, _), (4, _), (5, _), (6, _), (9, _)]) ⟨rfl, rfl, rfl, rfl, rfl, rfl, rfl, trivial⟩ ?_
      refine Post.then_ ?_
      refine Cd.ret ?_
      refine Post.end1 rfl rfl (.inl rfl) ?_
      exact ⟨rfl, bel⟩
namespace EditDecodes
theorem own : ownKnob Try.prog.godebug = none := by kernel_rfl
theorem laidOut : laidOutB Try.prog = true := by kernel_rfl
set_option maxRecDepth 100000 in
theorem lifted (os : Os) (started : os.Started) (H : Type) (enc : TypeId × Value → H) :
    ReturnsInHanded {} Try.checked os 5 .any (Rows.editDecodesSpec.pre6 enc Try.prog Try.f5 Rows.editDecodesRow.domain false) (Rows.editDecodesSpec.post enc Try.prog Try.f5 false true false false) := by
  refine returnsInHanded_of_change (C := Try.checked) own started (by kernel_rfl) Try.func5
    (ChangeSpec.witness6 (enc := enc) (C := Try.checked) false ⟨#[], #[.string { data := #[] }], []⟩ 8 (by kernel_rfl) (by kernel_rfl) (by kernel_rfl) (by kernel_rfl)) ?_
  intro W base args ds gs before hval0 hW hcnd _
  have hval : ∀ (j : Nat) t v, Try.f5.params[j]? = some t → args[j]? = some v → Value.okWide Try.prog W .any base t v := hval0
  have hW' := hW
  obtain ⟨p, q, hA0, hV, rfl, hfz, hnd⟩ := hW
  have hA : DataW.TrodAll enc Try.prog W 0 (fun _ => true) true Try.f5.params.toList args.toList ds p := hA0
  rw [Try.params5] at hA hval
  obtain ⟨v0, vs0, d0, ds0, p0, q0, hargs, rfl, rfl, h0, r0⟩ := trodAll_cons hA
  obtain ⟨rfl, rfl, rfl⟩ := trodAll_nil r0
  obtain rfl : args = #[v0] := by cases args; simp_all
  obtain ⟨rfl, rfl⟩ := trodVars_none hV
  have k0 := h0
  have lt0 : ∀ x ∈ p0, x.block < W.heap.size := by obtain ⟨m, hm⟩ := k0; exact DataW.trod_lt m _ _ _ hm
  obtain ⟨s, rfl, hs, -⟩ := open_str Try.underlying9 (hval 0 _ v0 rfl rfl)
  clear hA0 hval0
  refine (walk_decodes s W hs).mono fun e W' ⟨he, bel⟩ => ?_
  subst he
  exact ⟨_, rfl, _, _, _, [], _, [], hW', trodAll_mk1 (shut_bool Try.underlying4 _), (trodAll_cons_mk (Below.trod laidOut (by kernel_rfl) (of_decide_eq_true (by kernel_rfl)) k0 bel lt0) trodAll_mk0), rfl, bel.frame _, fun h => by cases h⟩

theorem over : Rows.editDecodesRow.holds Try.pinned (OpenSpec.ofChange Rows.editDecodesSpec) :=
  OpenClaim.holds_of_wide 5 Try.f5 rfl rfl rfl rfl rfl rfl rfl ⟨rfl, rfl, rfl, rfl, rfl⟩ rfl rfl rfl rfl rfl (by kernel_rfl) Try.func5 (by kernel_rfl)
    (of_decide_eq_true (by kernel_rfl)) (by unfold Func.isWrapper; first | (rw [if_pos (by decide +kernel)]; kernel_rfl) | (rw [if_neg (by decide +kernel)]; exact ⟨rfl, rfl⟩))
    (fun os started H enc _ => lifted os started H enc)

theorem proved : Rows.EditDecodesSaid := over

end EditDecodes
end Go.Proofs.Ythnnephcohljeaa
