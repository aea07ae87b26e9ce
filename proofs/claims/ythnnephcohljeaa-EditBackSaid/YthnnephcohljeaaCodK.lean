/-
  codec.Read, edit.Decode: what they answer. No condition but that bytes are bytes.
-/
import Derived.Test.YthnnephcohljeaaCodJ
namespace Go.Proofs.Ythnnephcohljeaa
open Go.RowKit

structure Ed where
  lg : Int
  nx : Int
  sq : Int
  drop : List Nat
  add : List Fn
def decP : List Nat → Option (Ed × List Nat) := seqP sgnP fun a => seqP sgnP fun b => seqP sgnP fun c => seqP (getP sizeP 100) fun d => seqP (getP fnP 100) fun e => retP ⟨a, b, c, d, e⟩
def Ed.laid (x : Ed) : Bool := laidB x.lg x.nx x.sq (DN x.drop) (x.add.map Fn.fl)
/-- The edit of bytes. -/
def decF (s : List Nat) : Option Ed := match decP s with
  | some (x, []) => if x.laid = true then some x else none
  | _ => none
theorem read_any (s : List Nat) (w : World) (hs : Byt s) : Calls Try.prog 41 #[.string (strOf s)] w fun e w' => ∃ g, e = .returned (.pointer (some ⟨g, 0, none⟩)) ∧ Grow w w' ∧ w.heap.size ≤ g ∧ Rd 124 w' g (some s) := by
  have bel := Below.refl w.heap.size w
  have hb : ∀ W, (Instr.build 124 #[(0, .string (strOf s))]).run Try.prog W = .ok (.agg #[.string (strOf s), .bool false]) W := fun W => by
    have hu := Try.underlying124
    go_simp
  refine Calls.start 6 Try.func41 rfl rfl rfl ?_
  refine Cd.seq ?_
  refine Cd.region ?_
  refine Seq.val (Runs.assign rfl rfl) rfl rfl rfl ?_
  refine Seq.nil ?_
  refine Post.weak (F' := [(0, _), (2, _)]) ⟨rfl, rfl, trivial⟩ ?_
  refine Post.then_ ?_
  refine Cd.seq ?_
  refine Cd.region ?_
  refine Seq.val (Runs.move rfl rfl) rfl rfl rfl ?_
  refine Seq.val (Runs.build rfl rfl (hb _)) rfl rfl rfl ?_
  refine Seq.box rfl rfl rfl rfl rfl ?_
  intro g5 w1 n5
  have e5 := Nat.le_trans bel.size n5.ge
  replace bel := bel.step n5.below
  have k5 := n5.blk
  refine Seq.val (Runs.assign rfl rfl) rfl rfl rfl ?_
  refine Seq.nil ?_
  refine Post.weak (F' := [(0, _), (2, _)]) ⟨rfl, rfl, trivial⟩ ?_
  refine Post.then_ ?_
  refine Cd.ret ?_
  refine Post.end1 rfl rfl (.inl rfl) ?_
  exact ⟨_, rfl, bel, e5, Rd.good k5 hs⟩
theorem run_build_E1 (z : Int) (w : World) : (Instr.build 38 #[(0, .int .i64 z)]).run Try.prog w = .ok (.agg #[.int .i64 z, .int .i64 0, .int .i64 0, .slice none 0 0, .slice none 0 0]) w := by
  have hu := Try.underlying38
  go_simp
theorem run_build_Ez (w : World) : (Instr.build 38 #[]).run Try.prog w = .ok (.agg #[.int .i64 0, .int .i64 0, .int .i64 0, .slice none 0 0, .slice none 0 0]) w := by kernel_rfl
/-- What Decode answers. -/
def DecR (B : Nat) (te : TypeId) : Option Ed → Value → World → Prop
  | none, v, _ => v = .agg #[.int .i64 0, .int .i64 0, .int .i64 0, .slice none 0 0, .slice none 0 0]
  | some x, v, w => ∃ A c A' c', v = .agg #[.int .i64 x.lg, .int .i64 x.nx, .int .i64 x.sq, .slice A x.drop.length c, .slice A' x.add.length c'] ∧ Own w B 3 1 (.slice A x.drop.length c) x.drop.length (DNc x.drop) ∧ Own w B te 6 (.slice A' x.add.length c') x.add.length (Fc x.add)
theorem decode_any (s : List Nat) (w : World) (hs : Byt s) : Calls Try.prog 16 #[.string (strOf s)] w fun e w' => (∃ v, e = .returned (.tuple #[v, .int .i64 (if (decF s).isSome = true then 0 else 3)]) ∧ DecR w.heap.size 28 (decF s) v w') ∧ Grow w w' := by
  have bel := Below.refl w.heap.size w
  have hdd : decF s = match decP s with | some (x, []) => if x.laid = true then some x else none | _ => none := rfl
  generalize decF s = D at *
  refine Calls.start 33 Try.func16 rfl rfl rfl ?_
  refine Cd.seq ?_
  refine Cd.region ?_
  refine Seq.alloc rfl (run_zero zero_edit_Edit) rfl rfl rfl ?_
  intro g2 w1 n2
  have e2 := Nat.le_trans bel.size n2.ge
  replace bel := bel.step n2.below
  have k2 := n2.blk
  refine Seq.val (Runs.assign rfl rfl) rfl rfl rfl ?_
  refine Seq.nil ?_
  refine Post.weak (F' := [(0, _), (2, _), (3, _)]) ⟨rfl, rfl, rfl, trivial⟩ ?_
  refine Post.then_ ?_
  refine Cd.seq ?_
  refine Cd.region ?_
  refine Seq.val (Runs.move rfl rfl) rfl rfl rfl ?_
  refine Seq.call (Enters.func rfl rfl rfl (run_enter Try.func41 (by kernel_rfl) rfl)) rfl rfl rfl (read_any s _ hs) ?_
  rintro e w5 ⟨g, rfl, hb5, hg, rd⟩
  refine ⟨_, rfl, ?_⟩
  replace bel := bel.step hb5
  replace k2 := k2.step hb5
  have hgB : w.heap.size ≤ g := by have := e2; have := k2.lt; have := n2.below.size; omega
  have belr := bel
  have hgl := rd.lt
  have kf := Kf.refl g w5
  refine Seq.val (Runs.assign rfl rfl) rfl rfl rfl ?_
  refine Seq.nil ?_
  refine Post.weak (F' := [(0, _), (2, _), (3, _), (4, _)]) ⟨rfl, rfl, rfl, rfl, trivial⟩ ?_
  refine Post.then_ ?_
  refine Cd.seq ?_
  refine Cd.region ?_
  refine Seq.val (Runs.move rfl rfl) rfl rfl rfl ?_
  refine Seq.call (Enters.func rfl rfl rfl (run_enter Try.func42 (by kernel_rfl) rfl)) rfl rfl rfl (rsigned_any g _ _ rd) ?_
  rintro e w2 ⟨a, ⟨ha, hva, rfl⟩, fw2, rd'⟩
  refine ⟨_, rfl, ?_⟩
  replace k2 := k2.kf fw2 rd
  replace kf := kf.kf fw2 rd
  replace rd := rd'
  clear rd'
  refine Seq.val (Runs.build rfl rfl (run_build_E1 _ _)) rfl rfl rfl ?_
  refine Seq.alloc rfl (run_zero zero_edit_Edit) rfl rfl rfl ?_
  intro g5 w3 n5
  have e5 := Nat.le_trans kf.size n5.ge
  have l5 := Nat.lt_of_lt_of_le k2.lt n5.ge
  replace k2 := k2.step n5.below
  replace kf := kf.step n5.below
  replace rd := rd.step n5.below
  have k5 := n5.blk
  refine Seq.storeN rfl rfl rfl rfl (m := 5) (by kernel_rfl) rfl (by repeat' first | exact trivial | apply And.intro | rfl | assumption) k5 (by simp [Value.cells]) rfl rfl ?_
  intro w4 pw4
  replace k2 := k2.put pw4 (by omega)
  replace kf := kf.put k5 pw4 e5
  replace rd := rd.put k5 pw4 e5
  replace k5 := pw4.blk
  refine Seq.nil ?_
  refine Post.weak (F' := [(0, _), (2, _), (3, _), (4, _), (5, _)]) ⟨rfl, rfl, rfl, rfl, rfl, trivial⟩ ?_
  refine Post.then_ ?_
  refine Cd.seq ?_
  refine Cd.region ?_
  refine Seq.val (Runs.move rfl rfl) rfl rfl rfl ?_
  refine Seq.call (Enters.func rfl rfl rfl (run_enter Try.func42 (by kernel_rfl) rfl)) rfl rfl rfl (rsigned_any g _ _ rd) ?_
  rintro e w5 ⟨b, ⟨hb, hvb, rfl⟩, fw5, rd'⟩
  refine ⟨_, rfl, ?_⟩
  replace k2 := k2.kf fw5 rd
  replace kf := kf.kf fw5 rd
  replace k5 := k5.kf fw5 rd
  replace rd := rd'
  clear rd'
  refine Seq.val (Runs.fieldB 1 rfl rfl Try.underlying38 rfl (by kernel_rfl)) rfl rfl rfl ?_
  refine Seq.store1 rfl rfl rfl (by kernel_rfl) rfl rfl k5 rfl rfl rfl ?_
  intro w6 pw6
  replace k2 := k2.put pw6 (by omega)
  replace kf := kf.put k5 pw6 e5
  replace rd := rd.put k5 pw6 e5
  replace k5 := pw6.blk
  refine Seq.nil ?_
  refine Post.weak (F' := [(0, _), (2, _), (3, _), (4, _), (5, _)]) ⟨rfl, rfl, rfl, rfl, rfl, trivial⟩ ?_
  refine Post.then_ ?_
  refine Cd.seq ?_
  refine Cd.region ?_
  refine Seq.val (Runs.move rfl rfl) rfl rfl rfl ?_
  refine Seq.call (Enters.func rfl rfl rfl (run_enter Try.func42 (by kernel_rfl) rfl)) rfl rfl rfl (rsigned_any g _ _ rd) ?_
  rintro e w7 ⟨c, ⟨hc, hvc, rfl⟩, fw7, rd'⟩
  refine ⟨_, rfl, ?_⟩
  replace k2 := k2.kf fw7 rd
  replace kf := kf.kf fw7 rd
  replace k5 := k5.kf fw7 rd
  replace rd := rd'
  clear rd'
  refine Seq.val (Runs.fieldB 2 rfl rfl Try.underlying38 rfl (by kernel_rfl)) rfl rfl rfl ?_
  refine Seq.store1 rfl rfl rfl (by kernel_rfl) rfl rfl k5 rfl rfl rfl ?_
  intro w8 pw8
  replace k2 := k2.put pw8 (by omega)
  replace kf := kf.put k5 pw8 e5
  replace rd := rd.put k5 pw8 e5
  replace k5 := pw8.blk
  refine Seq.nil ?_
  refine Post.weak (F' := [(0, _), (2, _), (3, _), (4, _), (5, _)]) ⟨rfl, rfl, rfl, rfl, rfl, trivial⟩ ?_
  refine Post.then_ ?_
  refine Cd.seq ?_
  refine Cd.region ?_
  refine Seq.val (Runs.move rfl rfl) rfl rfl rfl ?_
  have s1 := Nat.le_trans belr.size kf.size
  refine Seq.call (Enters.func rfl rfl rfl (run_enter Try.func43 (by kernel_rfl) rfl)) rfl rfl rfl (getN_any g _ _ rd) ?_
  rintro e w9 ⟨dl, ⟨hdl, hdx, hvd, A, cA, rfl, own1⟩, fw9, rd'⟩
  refine ⟨_, rfl, ?_⟩
  replace k2 := k2.kf fw9 rd
  replace kf := kf.kf fw9 rd
  replace k5 := k5.kf fw9 rd
  replace rd := rd'
  clear rd'
  replace own1 : Own _ w.heap.size _ _ _ _ _ := ⟨own_base own1.row s1⟩
  refine Seq.val (Runs.fieldB 3 rfl rfl Try.underlying38 rfl (by kernel_rfl)) rfl rfl rfl ?_
  refine Seq.store1 rfl rfl rfl (by kernel_rfl) rfl rfl k5 rfl rfl rfl ?_
  intro w10 pw10
  replace k2 := k2.put pw10 (by omega)
  replace kf := kf.put k5 pw10 e5
  replace rd := rd.put k5 pw10 e5
  replace own1 := own1.put k5 pw10 e5
  replace k5 := pw10.blk
  refine Seq.nil ?_
  refine Post.weak (F' := [(0, _), (2, _), (3, _), (4, _), (5, _)]) ⟨rfl, rfl, rfl, rfl, rfl, trivial⟩ ?_
  refine Post.then_ ?_
  refine Cd.seq ?_
  refine Cd.region ?_
  refine Seq.val (Runs.move rfl rfl) rfl rfl rfl ?_
  have s2 := Nat.le_trans belr.size kf.size
  refine Seq.call (Enters.func rfl rfl rfl (run_enter Try.func45 (by kernel_rfl) rfl)) rfl rfl rfl (getF_any g _ _ rd) ?_
  rintro e w11 ⟨fl, ⟨hfl, hfx, hvf, A', cA', rfl, own2⟩, fw11, rd'⟩
  refine ⟨_, rfl, ?_⟩
  replace k2 := k2.kf fw11 rd
  replace kf := kf.kf fw11 rd
  replace k5 := k5.kf fw11 rd
  replace own1 := own1.kf fw11 rd
  replace rd := rd'
  clear rd'
  replace own2 : Own _ w.heap.size _ _ _ _ _ := ⟨own_base own2.row s2⟩
  refine Seq.val (Runs.fieldB 4 rfl rfl Try.underlying38 rfl (by kernel_rfl)) rfl rfl rfl ?_
  refine Seq.store1 rfl rfl rfl (by kernel_rfl) rfl rfl k5 rfl rfl rfl ?_
  intro w12 pw12
  replace k2 := k2.put pw12 (by omega)
  replace kf := kf.put k5 pw12 e5
  replace rd := rd.put k5 pw12 e5
  replace own1 := own1.put k5 pw12 e5
  replace own2 := own2.put k5 pw12 e5
  replace k5 := pw12.blk
  refine Seq.nil ?_
  refine Post.weak (F' := [(0, _), (2, _), (3, _), (4, _), (5, _)]) ⟨rfl, rfl, rfl, rfl, rfl, trivial⟩ ?_
  refine Post.then_ ?_
  refine Cd.seq ?_
  refine Cd.seq ?_
  refine Cd.region ?_
  refine Seq.val (Runs.move rfl rfl) rfl rfl rfl ?_
  refine Seq.call (Enters.func rfl rfl rfl (run_enter Try.func47 (by kernel_rfl) rfl)) rfl rfl rfl (rend_any g _ _ rd) ?_
  rintro e w20 ⟨rfl, hb20⟩
  refine ⟨_, rfl, ?_⟩
  replace k2 := k2.step hb20
  replace kf := kf.step hb20
  replace rd := rd.step hb20
  replace k5 := k5.step hb20
  replace own1 := own1.step hb20
  replace own2 := own2.step hb20
  have hval : val1 decP (some s) ⟨a, b, c, dl, fl⟩ := seqP_val hva (seqP_val hvb (seqP_val hvc (seqP_val hvd (seqP_val hvf (retP_val _)))))
  have hrest : rest decP (some s) = rest (getP fnP 100) (rest (getP sizeP 100) (rest sgnP (rest sgnP (rest sgnP (some s))))) := by
    unfold decP
    rw [seqP_rest hva, seqP_rest hvb, seqP_rest hvc, seqP_rest hvd, seqP_rest hvf, retP_rest]
  rw [← hrest] at rd ⊢
  have hlaid : ∃ L, L = laidB a b c (DN dl) (fl.map Fn.fl) := ⟨_, rfl⟩
  obtain ⟨L, hL⟩ := hlaid
  obtain ⟨A1, c1, hv1, hr1⟩ := own1.reads
  injection hv1 with e1 _ e2'
  subst e1 e2'
  obtain ⟨A2, c2, hv2, hr2⟩ := own2.reads
  injection hv2 with e1 _ e2'
  subst e1 e2'
  have hl := laid_any a b c _ A A' cA cA' (DN dl) (fl.map Fn.fl) w20 (by rw [DN, List.length_map]; exact hr1) (by rw [List.length_map]; exact hr2) (Nat.le_refl _)
  rw [← hL] at hl
  simp only [DN, List.length_map] at hl
  refine Seq.val (Runs.not rfl rfl) rfl rfl rfl ?_
  refine Seq.val (Runs.move rfl rfl) rfl rfl rfl ?_
  refine SeqC.start ?_
  refine SeqC.open rfl rfl rfl rfl rfl rfl rfl (fun hcx => Runs.loadW rfl rfl Try.underlying38 rfl k5 (m := 5) (by kernel_rfl) rfl) ?_
  refine SeqC.nextC rfl rfl rfl rfl rfl rfl rfl (fun hcx => Enters.func rfl rfl rfl (run_enter Try.func28 (by kernel_rfl) rfl)) (fun hcx => hl) ?_
  intro w13 hw13
  replace k2 := k2.step hw13
  replace kf := kf.step hw13
  replace rd := rd.step hw13
  replace k5 := k5.step hw13
  replace own1 := own1.step hw13
  replace own2 := own2.step hw13
  refine SeqC.next rfl rfl rfl rfl rfl rfl rfl (fun hcx => Runs.not rfl rfl) ?_
  refine SeqC.or rfl rfl rfl rfl rfl rfl rfl ?_
  refine Seq.nil ?_
  refine Post.weak (F' := [(0, _), (2, _), (3, _), (4, _), (5, _), (30, _)]) ⟨rfl, rfl, rfl, rfl, rfl, rfl, trivial⟩ ?_
  refine Post.then_ ?_
  refine Cd.cond rfl (fun h => ?_) (fun h => ?_)
  · have hD : D = none := by
      rw [hdd]
      cases hx : decP s with
      | none => rfl
      | some x =>
        obtain ⟨x, r⟩ := x
        have e := hval x r hx
        subst e
        have hq : rest decP (some s) = some r := rest_some (o := some s) hx
        rw [hq] at h
        cases r with
        | cons c r => rfl
        | nil =>
          simp at h
          subst h
          show (if Ed.laid _ = true then _ else none) = none
          unfold Ed.laid
          rw [if_neg (by rw [← hL]; simp)]
    subst hD
    have bel := belr.trans (kf.to hgB hgl)
    refine Cd.seq ?_
    refine Cd.region ?_
    refine Seq.val (Runs.build rfl rfl (run_build_Ez _)) rfl rfl rfl ?_
    refine Seq.storeN rfl rfl rfl rfl (m := 5) (by kernel_rfl) rfl (by repeat' first | exact trivial | apply And.intro | rfl | assumption) k2 (by simp [Value.cells]) rfl rfl ?_
    intro w14 pw14
    replace k5 := k5.put pw14 (by omega)
    replace own1 := own1.put k2 pw14 e2
    replace own2 := own2.put k2 pw14 e2
    replace bel := bel.put k2 pw14 e2
    replace k2 := pw14.blk
    refine Seq.val (Runs.assign rfl rfl) rfl rfl rfl ?_
    refine Seq.nil ?_
    refine Post.weak (F' := [(0, _), (2, _), (3, _), (4, _), (5, _), (30, _)]) ⟨rfl, rfl, rfl, rfl, rfl, rfl, trivial⟩ ?_
    refine Post.then_ ?_
    refine Cd.ret ?_
    refine Post.then_ret ?_
    refine Post.endC2 rfl rfl rfl k2 Try.underlying38 rfl (m := 5) (by kernel_rfl) rfl (.inl rfl) ?_
    exact ⟨⟨_, rfl, rfl⟩, bel⟩
  · have hD : D = some ⟨a, b, c, dl, fl⟩ := by
      rw [hdd]
      cases hx : decP s with
      | none =>
        rw [show rest decP (some s) = none from rest_none (o := some s) hx] at h
        simp at h
      | some x =>
        obtain ⟨x, r⟩ := x
        have e := hval x r hx
        subst e
        have hq : rest decP (some s) = some r := rest_some (o := some s) hx
        rw [hq] at h
        cases r with
        | cons c r => simp at h
        | nil =>
          simp at h
          subst h
          show (if Ed.laid _ = true then _ else none) = _
          unfold Ed.laid
          rw [if_pos hL.symm]
    subst hD
    have bel := belr.trans (kf.to hgB hgl)
    refine Cd.skip ?_
    refine Post.then_ ?_
    refine Cd.seq ?_
    refine Cd.region ?_
    refine Seq.val (Runs.loadW rfl rfl Try.underlying38 rfl k5 (m := 5) (by kernel_rfl) rfl) rfl rfl rfl ?_
    refine Seq.storeN rfl rfl rfl rfl (m := 5) (by kernel_rfl) rfl (by repeat' first | exact trivial | apply And.intro | rfl | assumption) k2 (by simp [Value.cells]) rfl rfl ?_
    intro w14 pw14
    replace k5 := k5.put pw14 (by omega)
    replace own1 := own1.put k2 pw14 e2
    replace own2 := own2.put k2 pw14 e2
    replace bel := bel.put k2 pw14 e2
    replace k2 := pw14.blk
    refine Seq.val (Runs.assign rfl rfl) rfl rfl rfl ?_
    refine Seq.nil ?_
    refine Post.weak (F' := [(0, _), (2, _), (3, _), (4, _), (5, _), (30, _)]) ⟨rfl, rfl, rfl, rfl, rfl, rfl, trivial⟩ ?_
    refine Post.then_ ?_
    refine Cd.ret ?_
    refine Post.endC2 rfl rfl rfl k2 Try.underlying38 rfl (m := 5) (by kernel_rfl) rfl (.inl rfl) ?_
    exact ⟨⟨_, rfl, A, cA, A', cA', rfl, own1, own2⟩, bel⟩
end Go.Proofs.Ythnnephcohljeaa
