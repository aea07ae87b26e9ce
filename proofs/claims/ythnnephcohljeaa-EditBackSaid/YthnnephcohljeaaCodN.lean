/-
  debentureref12.Decode: what it answers. No condition but that bytes are bytes.
-/
import Derived.Test.YthnnephcohljeaaCodM
namespace Go.Proofs.Ythnnephcohljeaa
open Go.RowKit

/-- What a Reader's methods leave as it was, blocks of other types among it. -/
structure Rf (T : TypeId) (g : Nat) (w w' : World) : Prop where
  kf : Kf g w w'
  keep : ∀ k t cs, Blk w k t cs → t ≠ T → Blk w' k t cs
section
variable {T : TypeId} {g : Nat} {w w' w'' : World} {o : Option (List Nat)}
theorem Rf.refl (T : TypeId) (g : Nat) (w : World) : Rf T g w w := ⟨Kf.refl g w, fun _ _ _ h _ => h⟩
theorem Rf.trans (h : Rf T g w w') (k : Rf T g w' w'') : Rf T g w w'' := ⟨h.kf.trans k.kf, fun i t cs hb hne => k.keep i t cs (h.keep i t cs hb hne) hne⟩
theorem Rf.grow (h : Below w.heap.size w w') : Rf T g w w' := ⟨(Kf.refl g w).step h, fun _ _ _ hb _ => hb.step h⟩
theorem Kf.rf_of (f : Kf g w w') (rd : Rd T w g o) : Rf T g w w' := ⟨f, fun _ _ _ h hne => h.kf f rd hne⟩
theorem Kf.rf (h : Kf g w w') (f : Rf T g w' w'') : Kf g w w'' := h.trans f.kf
theorem Blk.rf {k : Nat} {t : TypeId} {cs : Array Value} (h : Blk w k t cs) (f : Rf T g w w') (hne : t ≠ T := by decide) : Blk w' k t cs := f.keep k t cs h hne
theorem Own.rf {B size n : Nat} {e : TypeId} {v : Value} {xs : List Value} (h : Own w B e size v n xs) (f : Rf T g w w') (hne : e ≠ T := by decide) : Own w' B e size v n xs := by
  obtain ⟨h1, h2⟩ := h.row
  refine ⟨h1, ?_⟩
  rcases h2 with h2 | ⟨g', cap, cur, e1, e2, e3, e4⟩
  · exact .inl h2
  · exact .inr ⟨g', cap, cur, e1, e2, f.keep g' e cur e3 hne, e4⟩
theorem NewSl.rf {B m : Nat} {t : TypeId} {cs : Array Value} (hne : t ≠ T) : ∀ v w w', Rf T g w w' → NewSl B m t cs v w → NewSl B m t cs v w' := fun _ _ _ f ⟨g', e, h, hB⟩ => ⟨g', e, f.keep g' t cs h hne, hB⟩
end
theorem run_build_part (s : List Nat) (w : World) : (Instr.build 96 #[(0, .string (strOf s))]).run Try.prog w = .ok (.agg #[.string (strOf s), .bool false]) w := by
  have hu := Try.underlying96
  go_simp
theorem run_build_Rz (w : World) : (Instr.build 32 #[]).run Try.prog w = .ok (.agg #[.int .i64 0, .int .i64 0, .int .i64 0, .slice none 0 0, .slice none 0 0]) w := by kernel_rfl
theorem run_build_RF (w : World) : (Instr.build 23 #[]).run Try.prog w = .ok (.agg #[.int .i64 0, .int .i64 0, .string { data := #[] }, .string { data := #[] }, .int .i64 0, .int .i64 0]) w := by kernel_rfl
theorem zero_debentureref12_Edit : zeroIs Try.prog 32 = some (some (.agg #[.int .i64 0, .int .i64 0, .int .i64 0, .slice none 0 0, .slice none 0 0])) := by kernel_rfl
theorem sgnP_rest (o : Option (List Nat)) : rest sgnP o = rest gP o := by
  unfold rest
  cases o with
  | none => rfl
  | some s =>
    show ((gP s).map _).map _ = (gP s).map _
    cases gP s <;> rfl
theorem sgnP_D (o : Option (List Nat)) : val1 sgnP o (unsgn (valD gP 0 o)) := fun a r e => by
  cases o with
  | none => cases e
  | some s =>
    have e : (gP s).map (fun x => (unsgn x.1, x.2)) = some (a, r) := e
    cases hx : gP s with
    | none => rw [hx] at e; cases e
    | some x =>
      obtain ⟨m, q⟩ := x
      rw [hx] at e
      injection e with e
      injection e with e _
      rw [valD_some (p := gP) (o := some s) hx]; exact e
theorem gP_D64 {T : TypeId} {w : World} {g : Nat} {o : Option (List Nat)} (h : Rd T w g o) : valD gP 0 o < 18446744073709551616 := by
  cases hx : o.bind gP with
  | none => rw [valD_none hx]; decide
  | some x =>
    obtain ⟨m, r⟩ := x
    rw [valD_some hx]
    cases o with
    | none => cases hx
    | some s => exact (gP_cod.sound s m r h.byt hx).1
theorem sizeP_D63 {T : TypeId} {w : World} {g : Nat} {o : Option (List Nat)} (h : Rd T w g o) : valD sizeP 0 o < 9223372036854775808 := by
  cases hx : o.bind sizeP with
  | none => rw [valD_none hx]; decide
  | some x =>
    obtain ⟨m, r⟩ := x
    rw [valD_some hx]
    cases o with
    | none => cases hx
    | some s => exact (sizeP_cod.sound s m r h.byt hx).1
theorem Own.app {B B2 B' n n2 size size2 : Nat} {w w' : World} {e e2 : TypeId} {v v2 : Value} {xs xs2 : List Value} (h : Own w B e size v n xs) (o : Own w B2 e2 size2 v2 n2 xs2) (ha : App w w' B' v2) (hne : e2 ≠ e := by decide) : Own w' B e size v n xs := by
  refine ⟨h.row.kept ha.grown ?_⟩
  obtain ⟨h1, h2⟩ := h.row
  rcases h2 with ⟨rfl, -⟩ | ⟨g', cap, cur, rfl, e2, e3, e4⟩
  · exact .inl rfl
  · exact .inr fun e' => own_blk_ne o.row (show Blk w g' e cur from e3) hne e'.symm
theorem txtP_Dbyt {T : TypeId} {w : World} {g : Nat} {o : Option (List Nat)} (h : Rd T w g o) : Byt (valD (txtP 80) [] o) := by
  cases hx : o.bind (txtP 80) with
  | none => rw [valD_none hx]; intro d hd; cases hd
  | some x =>
    obtain ⟨m, r⟩ := x
    rw [valD_some hx]
    cases o with
    | none => cases hx
    | some s =>
      have h1 := ((txtP_cod 80 (by decide)).sound s m r h.byt hx).2
      have h2 : Byt (txt m ++ r) := h1 ▸ h.byt
      exact (Byt.left h2).right
theorem refDecode_any (s : List Nat) (w : World) (hs : Byt s) : Calls Try.prog 17 #[.string (strOf s)] w fun e w' => (∃ v, e = .returned (.tuple #[v, .bool (decF s).isSome]) ∧ DecR w.heap.size 23 (decF s) v w') ∧ Grow w w' := by
  have bel := Below.refl w.heap.size w
  have hdd : decF s = match decP s with | some (x, []) => if x.laid = true then some x else none | _ => none := rfl
  generalize decF s = D at *
  refine Calls.start 126 Try.func17 rfl rfl rfl ?_
  refine Cd.seq ?_
  refine Cd.region ?_
  refine Seq.alloc rfl (run_zero zero_debentureref12_Edit) rfl rfl rfl ?_
  intro g2 w1 n2
  have e2 := Nat.le_trans bel.size n2.ge
  replace bel := bel.step n2.below
  have k2 := n2.blk
  refine Seq.val (Runs.assign rfl rfl) rfl rfl rfl ?_
  refine Seq.nil ?_
  refine Post.weak (F' := [(0, _), (2, _), (3, _)]) ⟨rfl, rfl, rfl, trivial⟩ ?_
  refine Post.then_ ?_
  refine Cd.seq ?_
  refine Cd.region ?_
  refine Seq.val (Runs.move rfl rfl) rfl rfl rfl ?_
  refine Seq.val (Runs.build rfl rfl (run_build_part s _)) rfl rfl rfl ?_
  refine Seq.box rfl rfl rfl rfl rfl ?_
  intro g13 w2 n13
  have e13 := Nat.le_trans bel.size n13.ge
  have l13 := Nat.lt_of_lt_of_le k2.lt n13.ge
  replace bel := bel.step n13.below
  replace k2 := k2.step n13.below
  have k13 := n13.blk
  refine Seq.val (Runs.assign rfl rfl) rfl rfl rfl ?_
  refine Seq.nil ?_
  refine Post.weak (F' := [(0, _), (2, _), (3, _), (4, _)]) ⟨rfl, rfl, rfl, rfl, trivial⟩ ?_
  refine Post.then_ ?_
  refine Cd.seq ?_
  refine Cd.region ?_
  have rd : Rd 96 w2 g13 (some s) := Rd.good k13 hs
  have hgB := e13
  have belr := bel
  have hgl := rd.lt
  have kf := Kf.refl g13 w2
  refine Seq.val (Runs.build rfl rfl (run_build_Rz _)) rfl rfl rfl ?_
  refine Seq.alloc rfl (run_zero zero_debentureref12_Edit) rfl rfl rfl ?_
  intro g5 w3 n5
  have e5 := Nat.le_trans kf.size n5.ge
  have l5 := Nat.lt_of_lt_of_le k2.lt n5.ge
  replace k2 := k2.step n5.below
  replace kf := kf.step n5.below
  replace rd := rd.step n5.below
  have k5 := n5.blk
  refine Seq.storeN rfl rfl rfl rfl (m := 5) (by kernel_rfl) rfl (by repeat' first | exact trivial | apply And.intro | rfl | assumption) k5 (by simp [Value.cells]) rfl rfl ?_
  intro w4 pw4
  replace k2 := k2.put pw4 (by omega)
  replace kf := kf.put k5 pw4 e5
  replace rd := rd.put k5 pw4 e5
  replace k5 := pw4.blk
  refine Seq.nil ?_
  refine Post.weak (F' := [(0, _), (2, _), (3, _), (4, _), (5, _)]) ⟨rfl, rfl, rfl, rfl, rfl, trivial⟩ ?_
  refine Post.then_ ?_
  refine Cd.seq ?_
  refine Cd.region ?_
  refine Seq.val (Runs.move rfl rfl) rfl rfl rfl ?_
  obtain ⟨a, ha⟩ : ∃ a, a = valD gP 0 (some s) := ⟨_, rfl⟩
  have hva := sgnP_D (some s)
  have ha64 := gP_D64 rd
  have hc := fun W h => pgroup_any g13 (some s) W h
  rw [← ha] at hva ha64 hc
  refine Seq.call (Enters.func rfl rfl rfl (run_enter Try.func49 (by kernel_rfl) rfl)) rfl rfl rfl (hc _ rd) ?_
  rintro e w5 ⟨rfl, fw5, rd'⟩
  refine ⟨_, rfl, ?_⟩
  replace k2 := k2.kf fw5 rd
  replace kf := kf.kf fw5 rd
  replace k5 := k5.kf fw5 rd
  replace rd := rd'
  clear rd'
  rw [← sgnP_rest] at rd
  refine Seq.call (Enters.func rfl rfl rfl (run_enter Try.func48 (by kernel_rfl) rfl)) rfl rfl rfl (number_any a _ ha64) ?_
  rintro e w5 ⟨rfl, hb5⟩
  refine ⟨_, rfl, ?_⟩
  replace k2 := k2.step hb5
  replace kf := kf.step hb5
  replace rd := rd.step hb5
  replace k5 := k5.step hb5
  refine Seq.val (Runs.fieldB 0 rfl rfl Try.underlying32 rfl (by kernel_rfl)) rfl rfl rfl ?_
  refine Seq.store1 rfl rfl rfl (by kernel_rfl) rfl rfl k5 rfl rfl rfl ?_
  intro w6 pw6
  replace k2 := k2.put pw6 (by omega)
  replace kf := kf.put k5 pw6 e5
  replace rd := rd.put k5 pw6 e5
  replace k5 := pw6.blk
  refine Seq.nil ?_
  refine Post.weak (F' := [(0, _), (2, _), (3, _), (4, _), (5, _)]) ⟨rfl, rfl, rfl, rfl, rfl, trivial⟩ ?_
  refine Post.then_ ?_
  refine Cd.seq ?_
  refine Cd.region ?_
  refine Seq.val (Runs.move rfl rfl) rfl rfl rfl ?_
  obtain ⟨o1, ho1⟩ : ∃ o1, o1 = rest sgnP (some s) := ⟨_, rfl⟩
  rw [← ho1] at rd
  obtain ⟨b, hb⟩ : ∃ b, b = valD gP 0 o1 := ⟨_, rfl⟩
  have hvb := sgnP_D o1
  have hb64 := gP_D64 rd
  have hc := fun W h => pgroup_any g13 o1 W h
  rw [← hb] at hvb hb64 hc
  refine Seq.call (Enters.func rfl rfl rfl (run_enter Try.func49 (by kernel_rfl) rfl)) rfl rfl rfl (hc _ rd) ?_
  rintro e w7 ⟨rfl, fw7, rd'⟩
  refine ⟨_, rfl, ?_⟩
  replace k2 := k2.kf fw7 rd
  replace kf := kf.kf fw7 rd
  replace k5 := k5.kf fw7 rd
  replace rd := rd'
  clear rd'
  rw [← sgnP_rest] at rd
  refine Seq.call (Enters.func rfl rfl rfl (run_enter Try.func48 (by kernel_rfl) rfl)) rfl rfl rfl (number_any b _ hb64) ?_
  rintro e w6 ⟨rfl, hb6⟩
  refine ⟨_, rfl, ?_⟩
  replace k2 := k2.step hb6
  replace kf := kf.step hb6
  replace rd := rd.step hb6
  replace k5 := k5.step hb6
  refine Seq.val (Runs.fieldB 1 rfl rfl Try.underlying32 rfl (by kernel_rfl)) rfl rfl rfl ?_
  refine Seq.store1 rfl rfl rfl (by kernel_rfl) rfl rfl k5 rfl rfl rfl ?_
  intro w8 pw8
  replace k2 := k2.put pw8 (by omega)
  replace kf := kf.put k5 pw8 e5
  replace rd := rd.put k5 pw8 e5
  replace k5 := pw8.blk
  refine Seq.nil ?_
  refine Post.weak (F' := [(0, _), (2, _), (3, _), (4, _), (5, _)]) ⟨rfl, rfl, rfl, rfl, rfl, trivial⟩ ?_
  refine Post.then_ ?_
  refine Cd.seq ?_
  refine Cd.region ?_
  refine Seq.val (Runs.move rfl rfl) rfl rfl rfl ?_
  obtain ⟨o2, ho2⟩ : ∃ o2, o2 = rest sgnP o1 := ⟨_, rfl⟩
  rw [← ho2] at rd
  obtain ⟨c, hcc⟩ : ∃ c, c = valD gP 0 o2 := ⟨_, rfl⟩
  have hvc := sgnP_D o2
  have hc64 := gP_D64 rd
  have hc := fun W h => pgroup_any g13 o2 W h
  rw [← hcc] at hvc hc64 hc
  refine Seq.call (Enters.func rfl rfl rfl (run_enter Try.func49 (by kernel_rfl) rfl)) rfl rfl rfl (hc _ rd) ?_
  rintro e w9 ⟨rfl, fw9, rd'⟩
  refine ⟨_, rfl, ?_⟩
  replace k2 := k2.kf fw9 rd
  replace kf := kf.kf fw9 rd
  replace k5 := k5.kf fw9 rd
  replace rd := rd'
  clear rd'
  rw [← sgnP_rest] at rd
  refine Seq.call (Enters.func rfl rfl rfl (run_enter Try.func48 (by kernel_rfl) rfl)) rfl rfl rfl (number_any c _ hc64) ?_
  rintro e w7 ⟨rfl, hb7⟩
  refine ⟨_, rfl, ?_⟩
  replace k2 := k2.step hb7
  replace kf := kf.step hb7
  replace rd := rd.step hb7
  replace k5 := k5.step hb7
  refine Seq.val (Runs.fieldB 2 rfl rfl Try.underlying32 rfl (by kernel_rfl)) rfl rfl rfl ?_
  refine Seq.store1 rfl rfl rfl (by kernel_rfl) rfl rfl k5 rfl rfl rfl ?_
  intro w10 pw10
  replace k2 := k2.put pw10 (by omega)
  replace kf := kf.put k5 pw10 e5
  replace rd := rd.put k5 pw10 e5
  replace k5 := pw10.blk
  refine Seq.nil ?_
  refine Post.weak (F' := [(0, _), (2, _), (3, _), (4, _), (5, _)]) ⟨rfl, rfl, rfl, rfl, rfl, trivial⟩ ?_
  refine Post.then_ ?_
  refine Cd.seq ?_
  refine Cd.region ?_
  refine Seq.val (Runs.move rfl rfl) rfl rfl rfl ?_
  obtain ⟨o3, ho3⟩ : ∃ o3, o3 = rest sgnP o2 := ⟨_, rfl⟩
  rw [← ho3] at rd
  generalize unsgn a = a' at *
  generalize unsgn b = b' at *
  generalize unsgn c = c' at *
  obtain ⟨n, hn⟩ : ∃ n, n = valD sizeP 0 o3 := ⟨_, rfl⟩
  have hvn := valD_val1 sizeP 0 o3
  have hn63 := sizeP_D63 rd
  have hc := fun W h => psize_any g13 o3 W h
  rw [← hn] at hvn hn63 hc
  refine Seq.call (Enters.func rfl rfl rfl (run_enter Try.func50 (by kernel_rfl) rfl)) rfl rfl rfl (hc _ rd) ?_
  rintro e w11 ⟨rfl, fw11, rd'⟩
  refine ⟨_, rfl, ?_⟩
  replace k2 := k2.kf fw11 rd
  replace kf := kf.kf fw11 rd
  replace k5 := k5.kf fw11 rd
  replace rd := rd'
  clear rd'
  refine Seq.val (Runs.assign rfl rfl) rfl rfl rfl ?_
  refine Seq.nil ?_
  refine Post.weak (F' := [(0, _), (2, _), (3, _), (4, _), (5, _), (6, _)]) ⟨rfl, rfl, rfl, rfl, rfl, rfl, trivial⟩ ?_
  refine Post.then_ ?_
  refine Cd.seq ?_
  refine Cd.seq ?_
  refine Cd.region ?_
  refine Seq.val (Runs.assign rfl rfl) rfl rfl rfl ?_
  refine Seq.nil ?_
  refine Post.weak (F' := [(0, _), (2, _), (3, _), (4, _), (5, _), (6, _), (7, _)]) ⟨rfl, rfl, rfl, rfl, rfl, rfl, rfl, trivial⟩ ?_
  refine Post.then_ ?_
  refine Cd.block ?_
  have hdefN : n ≤ 100 → (rest sizeP o3).bind (listP sizeP n []) = o3.bind (getP sizeP 100) := fun h1 => by
    cases o3 with
    | none => rfl
    | some s3 =>
      show _ = (sizeP s3).bind fun x => if x.1 ≤ 100 then listP sizeP x.1 [] x.2 else none
      cases hx : sizeP s3 with
      | none => rw [rest_none (p := sizeP) (o := some s3) hx]; rfl
      | some x =>
        obtain ⟨m, r⟩ := x
        have := hvn m r hx
        subst this
        rw [rest_some (p := sizeP) (o := some s3) hx]
        show listP sizeP n [] r = if n ≤ 100 then _ else none
        rw [if_pos h1]
  have hdefX : 100 < n → o3.bind (getP sizeP 100) = none := fun h1 => by
    cases o3 with
    | none => rfl
    | some s3 =>
      show ((sizeP s3).bind fun x => if x.1 ≤ 100 then listP sizeP x.1 [] x.2 else none) = none
      cases hx : sizeP s3 with
      | none => rfl
      | some x =>
        have := hvn x.1 x.2 hx
        show (if x.1 ≤ 100 then _ else none) = none
        rw [if_neg (by omega)]
  obtain ⟨R1, hR1⟩ : ∃ R1, R1 = o3.bind (getP sizeP 100) := ⟨_, rfl⟩
  rw [← hR1] at hdefN hdefX
  refine Cd.loop (σ := Nat × List Nat × Value × Option (List Nat)) (fun s => [(2, .pointer (some ⟨g2, 0, none⟩)), (4, .pointer (some ⟨g13, 0, none⟩)), (5, .pointer (some ⟨g5, 0, none⟩)), (6, .int .i64 (n : Int)), (7, .int .i64 (s.1 : Int))])
    (fun s wr => s.1 = s.2.1.length ∧ (100 < n → s.2.1 = []) ∧ (n ≤ 100 → s.1 ≤ n) ∧ (n ≤ 100 → s.2.2.2.bind (listP sizeP (n - s.1) s.2.1) = R1) ∧ (∀ x ∈ s.2.1, x < 9223372036854775808) ∧ Kf g13 w2 wr ∧ Rd 96 wr g13 s.2.2.2 ∧ Own wr w2.heap.size 3 1 s.2.2.1 s.2.1.length (DNc s.2.1) ∧ Blk wr g2 32 #[.int .i64 0, .int .i64 0, .int .i64 0, .slice none 0 0, .slice none 0 0] ∧ Blk wr g5 32 #[.int .i64 a', .int .i64 b', .int .i64 c', s.2.2.1, .slice none 0 0])
    (fun s => 101 - s.1) (0, [], .slice none 0 0, rest sizeP o3) ⟨rfl, fun _ => rfl, fun _ => Nat.zero_le _, hdefN, by simp, kf, rd, Own.nil _ _ _ _, k2, k5⟩ ⟨rfl, rfl, rfl, rfl, rfl, trivial⟩ ?_
  clear k2 kf rd k5
  rintro ⟨i, acc, v, q⟩ wr ⟨hi, hacc0, hin, hR, hall, kf, rd, own, k2, k5⟩
  simp only at hi hacc0 hin hR hall rd own k5
  show Cd _ _ _ _ [(2, .pointer (some ⟨g2, 0, none⟩)), (4, .pointer (some ⟨g13, 0, none⟩)), (5, .pointer (some ⟨g5, 0, none⟩)), (6, .int .i64 (n : Int)), (7, .int .i64 (i : Int))] _
  obtain ⟨s1, b1, k13, hs1, hq⟩ := id rd
  obtain ⟨A, cA, rfl, -⟩ := own.reads
  refine Cd.seq ?_
  refine Cd.seq ?_
  refine Cd.region ?_
  refine Seq.val (Runs.move rfl rfl) rfl rfl rfl ?_
  refine Seq.val (Runs.move rfl rfl) rfl rfl rfl ?_
  refine Seq.val (Runs.lss rfl rfl rfl) rfl rfl rfl ?_
  refine Seq.val (Runs.move rfl rfl) rfl rfl rfl ?_
  refine SeqC.start ?_
  refine SeqC.open rfl rfl rfl rfl rfl rfl rfl (fun hcx => Runs.move rfl rfl) ?_
  refine SeqC.next rfl rfl rfl rfl rfl rfl rfl (fun hcx => Runs.nilCheck rfl rfl) ?_
  refine SeqC.next rfl rfl rfl rfl rfl rfl rfl (fun hcx => Runs.fieldB 1 rfl rfl Try.underlying96 rfl (by kernel_rfl)) ?_
  refine SeqC.next rfl rfl rfl rfl rfl rfl rfl (fun hcx => Runs.loadB rfl rfl Try.underlying4 rfl k13 rfl) ?_
  refine SeqC.next rfl rfl rfl rfl rfl rfl rfl (fun hcx => Runs.not rfl rfl) ?_
  refine SeqC.and rfl rfl rfl rfl rfl rfl rfl ?_
  refine Seq.val (Runs.move rfl rfl) rfl rfl rfl ?_
  refine SeqC.start ?_
  refine SeqC.open rfl rfl rfl rfl rfl rfl rfl (fun hcx => Runs.move rfl rfl) ?_
  refine SeqC.next rfl rfl rfl rfl rfl rfl rfl (fun hcx => Runs.leq rfl rfl rfl) ?_
  refine SeqC.and rfl rfl rfl rfl rfl rfl rfl ?_
  refine Seq.nil ?_
  refine Post.weak (F' := [(2, _), (4, _), (5, _), (6, _), (7, _), (42, _)]) ⟨rfl, rfl, rfl, rfl, rfl, rfl, trivial⟩ ?_
  refine Post.then_ ?_
  refine Cd.cond rfl (fun h => ?_) (fun h => ?_)
  · simp at h
    obtain ⟨⟨h1, h2⟩, h3⟩ := h
    subst h2
    have hq : q = some s1 := hq
    subst hq
    have hR := hR (by omega)
    rw [show n - i = (n - (i + 1)) + 1 by omega] at hR
    replace hR : ((some s1).bind sizeP).bind (fun x => listP sizeP (n - (i + 1)) (acc ++ [x.1]) x.2) = R1 := hR
    have hvz := valD_val1 sizeP 0 (some s1)
    have hz63 := sizeP_D63 rd
    have hc := fun W h => psize_any g13 (some s1) W h
    obtain ⟨z, hz⟩ : ∃ z, z = valD sizeP 0 (some s1) := ⟨_, rfl⟩
    rw [← hz] at hvz hz63 hc
    refine Cd.skip ?_
    refine Post.then_ ?_
    refine Cd.seq ?_
    refine Cd.block ?_
    refine Cd.drawJ 5 (by kernel_rfl) [] [3] (fun i h => by cases h) rfl rfl (.inl rfl) rfl (Rf 96 g13) (Rf.refl _ g13) (fun _ _ _ => Rf.trans) (fun c w => Rd 96 w g13 (nthL none [some s1, rest sizeP (some s1)] c)) ?_
    intro w12 hw12 zw12
    replace k2 := k2.step hw12
    replace kf := kf.step hw12
    replace rd := rd.step hw12
    replace k5 := k5.step hw12
    replace own := own.step hw12
    refine ⟨rd, ?_⟩
    have zlt := k5.lt
    refine DJ.val rfl (Rf.refl _ g13) rfl (fun w hG => Runs.fieldB 3 rfl rfl Try.underlying32 rfl (by kernel_rfl)) rfl ?_
    refine DJ.val rfl (Rf.refl _ g13) rfl (fun w hG => Runs.loadB rfl rfl Try.underlying30 rfl (k5.rf hG) rfl) rfl ?_
    refine DJ.val rfl (Rf.refl _ g13) rfl (fun w hG => Runs.move rfl rfl) rfl ?_
    refine DJ.chain 0 rfl rfl (fun w => Enters.func rfl rfl rfl (run_enter Try.func50 (by kernel_rfl) rfl)) rfl (fun w hG rd => (hc _ rd).mono fun e w' ⟨e1, f, r⟩ => ⟨e1, f.rf_of rd, r⟩) ?_
    refine DJ.slice 0 (vs := [_]) (s := 1) rfl (fun _ _ h => Rf.grow h) (fun _ _ => Nat.zero_le _) (fun c w w' hg h => Rd.step h hg) (NewSl.rf (by decide)) rfl rfl rfl rfl Try.underlying30 (by kernel_rfl) zero_int (by omega) (by omega) ⟨rfl, trivial⟩ rfl ?_
    refine DJ.nil ?_
    refine FinX.open (j := 4) rfl ?_
    intro u4
    refine FinX.done (F' := [(2, _), (4, _), (5, _), (6, _), (7, _), (42, _), (46, _), (49, _)]) rfl ⟨rfl, rfl, rfl, rfl, rfl, rfl, rfl, rfl, trivial⟩ ?_
    intro w13 hw13 fw13
    replace k2 := k2.rf hw13
    replace kf := kf.rf hw13
    replace k5 := k5.rf hw13
    replace own := own.rf hw13
    clear rd
    have rd := fw13
    obtain ⟨gz, rfl, kz, -⟩ := fw13.2
    have hrd := Reads.blk (size := 1) kz 1 rfl
    replace rd : Rd 96 w13 g13 (rest sizeP (some s1)) := fw13.1
    refine Seq.append rfl rfl rfl Try.underlying30 (by kernel_rfl) zero_int rfl (by decide) (b := 8) (by kernel_rfl) own (hrd) (by intro x hx; simp [flatC, Value.cells] at hx; rw [hx]; rfl) kf.size (by simp only [maxLen]; omega) (by omega) rfl rfl rfl ?_
    intro vw14 w14 ow14 haw14
    replace k2 := k2.app own haw14
    replace kf := kf.app own haw14
    replace rd := rd.app own haw14
    replace k5 := k5.app own haw14
    clear own
    have own := ow14
    obtain ⟨A2, cA2, rfl, -⟩ := own.reads
    refine Seq.val (Runs.fieldB 3 rfl rfl Try.underlying32 rfl (by kernel_rfl)) rfl rfl rfl ?_
    refine Seq.store1 rfl rfl rfl (by kernel_rfl) rfl rfl k5 rfl rfl rfl ?_
    intro w15 pw15
    replace k2 := k2.put pw15 (by omega)
    replace kf := kf.put k5 pw15 e5
    replace rd := rd.put k5 pw15 e5
    replace own := own.put k5 pw15 e5
    replace k5 := pw15.blk
    refine Seq.nil ?_
    refine Post.weak (F' := [(2, _), (4, _), (5, _), (6, _), (7, _), (42, _)]) ⟨rfl, rfl, rfl, rfl, rfl, rfl, trivial⟩ ?_
    refine Post.block_normal ?_
    refine Post.then_ ?_
    refine Cd.region ?_
    refine Seq.val (Runs.move rfl rfl) rfl rfl rfl ?_
    refine Seq.val (Runs.addI rfl rfl rfl (by omega) (by omega)) rfl rfl rfl ?_
    refine Seq.val (Runs.assign rfl rfl) rfl rfl rfl ?_
    refine Seq.nil ?_
    refine Post.weak (F' := [(2, _), (4, _), (5, _), (6, _), (7, _), (42, _)]) ⟨rfl, rfl, rfl, rfl, rfl, rfl, trivial⟩ ?_
    refine Post.round (i + 1, acc ++ [z], _, rest sizeP (some s1)) ⟨rfl, rfl, rfl, rfl, rfl, trivial⟩ ⟨by simp; omega, fun hh => by omega, fun hh => by simp only; omega, fun _ => ?_, fun x hx => ?_, kf, rd, by simp only; rw [List.length_append, DNc_snoc]; exact own, k2, k5⟩ (by simp only; omega)
    · simp only
      rw [← hR]
      cases hx : (some s1).bind sizeP with
      | none => rw [rest_none hx]; rfl
      | some x =>
        obtain ⟨m, r⟩ := x
        have := hvz m r hx
        subst this
        rw [rest_some hx]; rfl
    · rcases List.mem_append.1 hx with hx | hx
      · exact hall x hx
      · simp at hx; subst hx; exact hz63
  · skip
    have hF1 : n ≤ 100 → R1 = q.map fun s => (acc, s) := fun h1 => by
      have hR := hR h1
      cases q with
      | none => exact hR.symm
      | some s =>
        have hb1 : b1 = false := by
          cases b1 with
          | false => rfl
          | true => cases hq
        subst hb1
        have hin := hin h1
        simp at h
        obtain rfl : i = n := by
          rcases Nat.lt_or_ge i n with hlt | hge
          · have := h hlt; omega
          · omega
        rw [Nat.sub_self] at hR
        exact hR.symm
    have hac : acc.length ≤ 100 := by
      rcases Nat.lt_or_ge 100 n with h1 | h1
      · rw [hacc0 h1]; simp
      · have := hin h1; omega
    refine Cd.exit ?_
    refine Post.then_exit ?_
    refine Post.round_exit ?_
    refine Post.block_exit ?_
    refine Post.then_ ?_
    refine Cd.seq ?_
    refine Cd.region ?_
    refine Seq.val (Runs.move rfl rfl) rfl rfl rfl ?_
    clear hR h
    obtain ⟨m, hm⟩ : ∃ m, m = valD sizeP 0 q := ⟨_, rfl⟩
    have hvm := valD_val1 sizeP 0 q
    have hm63 := sizeP_D63 rd
    have hc := fun W h => psize_any g13 q W h
    rw [← hm] at hvm hm63 hc
    refine Seq.call (Enters.func rfl rfl rfl (run_enter Try.func50 (by kernel_rfl) rfl)) rfl rfl rfl (hc _ rd) ?_
    rintro e w12 ⟨rfl, fw12, rd'⟩
    refine ⟨_, rfl, ?_⟩
    replace k2 := k2.kf fw12 rd
    replace kf := kf.kf fw12 rd
    replace k5 := k5.kf fw12 rd
    replace own := own.kf fw12 rd
    replace rd := rd'
    clear rd'
    refine Seq.val (Runs.assign rfl rfl) rfl rfl rfl ?_
    refine Seq.nil ?_
    refine Post.weak (F' := [(2, _), (4, _), (5, _), (6, _), (7, _), (8, _), (42, _)]) ⟨rfl, rfl, rfl, rfl, rfl, rfl, rfl, trivial⟩ ?_
    refine Post.then_ ?_
    refine Cd.seq ?_
    refine Cd.seq ?_
    refine Cd.region ?_
    refine Seq.val (Runs.assign rfl rfl) rfl rfl rfl ?_
    refine Seq.nil ?_
    refine Post.weak (F' := [(2, _), (4, _), (5, _), (6, _), (7, _), (8, _), (9, _), (42, _)]) ⟨rfl, rfl, rfl, rfl, rfl, rfl, rfl, rfl, trivial⟩ ?_
    refine Post.then_ ?_
    refine Cd.block ?_
    have hdefM : m ≤ 100 → (rest sizeP q).bind (listP fnP m []) = q.bind (getP fnP 100) := fun h1 => by
      cases q with
      | none => rfl
      | some s3 =>
        show _ = (sizeP s3).bind fun x => if x.1 ≤ 100 then listP fnP x.1 [] x.2 else none
        cases hx : sizeP s3 with
        | none => rw [rest_none (p := sizeP) (o := some s3) hx]; rfl
        | some x =>
          obtain ⟨m2, r⟩ := x
          have := hvm m2 r hx
          subst this
          rw [rest_some (p := sizeP) (o := some s3) hx]
          show listP fnP m [] r = if m ≤ 100 then _ else none
          rw [if_pos h1]
    have hdefY : 100 < m → q.bind (getP fnP 100) = none := fun h1 => by
      cases q with
      | none => rfl
      | some s3 =>
        show ((sizeP s3).bind fun x => if x.1 ≤ 100 then listP fnP x.1 [] x.2 else none) = none
        cases hx : sizeP s3 with
        | none => rfl
        | some x =>
          have := hvm x.1 x.2 hx
          show (if x.1 ≤ 100 then _ else none) = none
          rw [if_neg (by omega)]
    obtain ⟨R2, hR2⟩ : ∃ R2, R2 = q.bind (getP fnP 100) := ⟨_, rfl⟩
    rw [← hR2] at hdefM hdefY
    refine Cd.loop (σ := Nat × List Fn × Value × Option (List Nat)) (fun s => [(2, .pointer (some ⟨g2, 0, none⟩)), (4, .pointer (some ⟨g13, 0, none⟩)), (5, .pointer (some ⟨g5, 0, none⟩)), (6, .int .i64 (n : Int)), (8, .int .i64 (m : Int)), (9, .int .i64 (s.1 : Int))])
      (fun s wr => s.1 = s.2.1.length ∧ (100 < n ∨ 100 < m → s.2.1 = []) ∧ (m ≤ 100 → s.1 ≤ m) ∧ (n ≤ 100 → m ≤ 100 → s.2.2.2.bind (listP fnP (m - s.1) s.2.1) = R2) ∧ (∀ x ∈ s.2.1, x.rd) ∧ Kf g13 w2 wr ∧ Rd 96 wr g13 s.2.2.2 ∧ Own wr w2.heap.size 3 1 (.slice A acc.length cA) acc.length (DNc acc) ∧ Own wr w2.heap.size 23 6 s.2.2.1 s.2.1.length (Fc s.2.1) ∧ Blk wr g2 32 #[.int .i64 0, .int .i64 0, .int .i64 0, .slice none 0 0, .slice none 0 0] ∧ Blk wr g5 32 #[.int .i64 a', .int .i64 b', .int .i64 c', .slice A acc.length cA, s.2.2.1])
      (fun s => 101 - s.1) (0, [], .slice none 0 0, rest sizeP q) ⟨rfl, fun _ => rfl, fun _ => Nat.zero_le _, fun _ h => hdefM h, by simp, kf, rd, own, Own.nil _ _ _ _, k2, k5⟩ ⟨rfl, rfl, rfl, rfl, rfl, rfl, trivial⟩ ?_
    clear k2 kf rd k5 own
    rintro ⟨j, accF, vF, q0⟩ wr ⟨hj, haccF, hjm, hRF, hallF, kf, rd, own, ownF, k2, k5⟩
    simp only at hj haccF hjm hRF hallF rd ownF k5
    show Cd _ _ _ _ [(2, .pointer (some ⟨g2, 0, none⟩)), (4, .pointer (some ⟨g13, 0, none⟩)), (5, .pointer (some ⟨g5, 0, none⟩)), (6, .int .i64 (n : Int)), (8, .int .i64 (m : Int)), (9, .int .i64 (j : Int))] _
    obtain ⟨s1, b1, k13, hs1, hq0⟩ := id rd
    obtain ⟨AF, cF, rfl, -⟩ := ownF.reads
    refine Cd.seq ?_
    refine Cd.seq ?_
    refine Cd.region ?_
    refine Seq.val (Runs.move rfl rfl) rfl rfl rfl ?_
    refine Seq.val (Runs.move rfl rfl) rfl rfl rfl ?_
    refine Seq.val (Runs.lss rfl rfl rfl) rfl rfl rfl ?_
    refine Seq.val (Runs.move rfl rfl) rfl rfl rfl ?_
    refine SeqC.start ?_
    refine SeqC.open rfl rfl rfl rfl rfl rfl rfl (fun hcx => Runs.move rfl rfl) ?_
    refine SeqC.next rfl rfl rfl rfl rfl rfl rfl (fun hcx => Runs.nilCheck rfl rfl) ?_
    refine SeqC.next rfl rfl rfl rfl rfl rfl rfl (fun hcx => Runs.fieldB 1 rfl rfl Try.underlying96 rfl (by kernel_rfl)) ?_
    refine SeqC.next rfl rfl rfl rfl rfl rfl rfl (fun hcx => Runs.loadB rfl rfl Try.underlying4 rfl k13 rfl) ?_
    refine SeqC.next rfl rfl rfl rfl rfl rfl rfl (fun hcx => Runs.not rfl rfl) ?_
    refine SeqC.and rfl rfl rfl rfl rfl rfl rfl ?_
    refine Seq.val (Runs.move rfl rfl) rfl rfl rfl ?_
    refine SeqC.start ?_
    refine SeqC.open rfl rfl rfl rfl rfl rfl rfl (fun hcx => Runs.move rfl rfl) ?_
    refine SeqC.next rfl rfl rfl rfl rfl rfl rfl (fun hcx => Runs.leq rfl rfl rfl) ?_
    refine SeqC.and rfl rfl rfl rfl rfl rfl rfl ?_
    refine Seq.val (Runs.move rfl rfl) rfl rfl rfl ?_
    refine SeqC.start ?_
    refine SeqC.open rfl rfl rfl rfl rfl rfl rfl (fun hcx => Runs.move rfl rfl) ?_
    refine SeqC.next rfl rfl rfl rfl rfl rfl rfl (fun hcx => Runs.leq rfl rfl rfl) ?_
    refine SeqC.and rfl rfl rfl rfl rfl rfl rfl ?_
    refine Seq.nil ?_
    refine Post.weak (F' := [(2, _), (4, _), (5, _), (6, _), (8, _), (9, _), (71, _)]) ⟨rfl, rfl, rfl, rfl, rfl, rfl, rfl, trivial⟩ ?_
    refine Post.then_ ?_
    refine Cd.cond rfl (fun h => ?_) (fun h => ?_)
    · simp at h
      obtain ⟨⟨⟨h1, h2⟩, h3⟩, h4⟩ := h
      subst h2
      have hq0 : q0 = some s1 := hq0
      have hRF := hRF (by omega) (by omega)
      rw [show m - j = (m - (j + 1)) + 1 by omega] at hRF
      have hRF : (q0.bind fnP).bind (fun x => listP fnP (m - (j + 1)) (accF ++ [x.1]) x.2) = R2 := by
        rw [← hRF, hq0]; rfl
      clear k13
      have kf0 := kf
      have rd0 := rd
      clear kf
      have kf := Kf.refl g13 wr
      refine Cd.skip ?_
      refine Post.then_ ?_
      refine Cd.seq ?_
      refine Cd.block ?_
      refine Cd.seq ?_
      refine Cd.region ?_
      refine Seq.val (Runs.build rfl rfl (run_build_RF _)) rfl rfl rfl ?_
      refine Seq.alloc rfl (run_zero zero_debentureref12_File) rfl rfl rfl ?_
      intro g10 w13 n10
      have e10 := Nat.le_trans kf.size n10.ge
      replace kf := kf.step n10.below
      replace rd := rd.step n10.below
      have k10 := n10.blk
      refine Seq.storeN rfl rfl rfl rfl (m := 6) (by kernel_rfl) rfl (by repeat' first | exact trivial | apply And.intro | rfl | assumption) k10 (by simp [Value.cells]) rfl rfl ?_
      intro w14 pw14
      replace kf := kf.put k10 pw14 e10
      replace rd := rd.put k10 pw14 e10
      replace k10 := pw14.blk
      refine Seq.nil ?_
      refine Post.weak (F' := [(2, _), (4, _), (5, _), (6, _), (8, _), (9, _), (10, _), (71, _)]) ⟨rfl, rfl, rfl, rfl, rfl, rfl, rfl, rfl, trivial⟩ ?_
      refine Post.then_ ?_
      refine Cd.seq ?_
      refine Cd.region ?_
      refine Seq.val (Runs.move rfl rfl) rfl rfl rfl ?_
      obtain ⟨z1, hz1⟩ : ∃ z, z = valD sizeP 0 q0 := ⟨_, rfl⟩
      have hv1 := valD_val1 sizeP 0 q0
      have hb1 := sizeP_D63 rd
      have hc := fun W h => psize_any g13 q0 W h
      rw [← hz1] at hv1 hb1 hc
      refine Seq.call (Enters.func rfl rfl rfl (run_enter Try.func50 (by kernel_rfl) rfl)) rfl rfl rfl (hc _ rd) ?_
      rintro e w15 ⟨rfl, fw15, rd'⟩
      refine ⟨_, rfl, ?_⟩
      replace kf := kf.kf fw15 rd
      replace k10 := k10.kf fw15 rd
      replace rd := rd'
      clear rd'
      obtain ⟨q1, hq1⟩ : ∃ q', q' = rest sizeP q0 := ⟨_, rfl⟩
      rw [← hq1] at rd
      refine Seq.val (Runs.fieldB 0 rfl rfl Try.underlying23 rfl (by kernel_rfl)) rfl rfl rfl ?_
      refine Seq.store1 rfl rfl rfl (by kernel_rfl) rfl rfl k10 rfl rfl rfl ?_
      intro w16 pw16
      replace kf := kf.put k10 pw16 e10
      replace rd := rd.put k10 pw16 e10
      replace k10 := pw16.blk
      refine Seq.nil ?_
      refine Post.weak (F' := [(2, _), (4, _), (5, _), (6, _), (8, _), (9, _), (10, _), (71, _)]) ⟨rfl, rfl, rfl, rfl, rfl, rfl, rfl, rfl, trivial⟩ ?_
      refine Post.then_ ?_
      refine Cd.seq ?_
      refine Cd.region ?_
      refine Seq.val (Runs.move rfl rfl) rfl rfl rfl ?_
      obtain ⟨z2, hz2⟩ : ∃ z, z = valD sizeP 0 q1 := ⟨_, rfl⟩
      have hv2 := valD_val1 sizeP 0 q1
      have hb2 := sizeP_D63 rd
      have hc := fun W h => psize_any g13 q1 W h
      rw [← hz2] at hv2 hb2 hc
      refine Seq.call (Enters.func rfl rfl rfl (run_enter Try.func50 (by kernel_rfl) rfl)) rfl rfl rfl (hc _ rd) ?_
      rintro e w17 ⟨rfl, fw17, rd'⟩
      refine ⟨_, rfl, ?_⟩
      replace kf := kf.kf fw17 rd
      replace k10 := k10.kf fw17 rd
      replace rd := rd'
      clear rd'
      obtain ⟨q2, hq2⟩ : ∃ q', q' = rest sizeP q1 := ⟨_, rfl⟩
      rw [← hq2] at rd
      refine Seq.val (Runs.fieldB 1 rfl rfl Try.underlying23 rfl (by kernel_rfl)) rfl rfl rfl ?_
      refine Seq.store1 rfl rfl rfl (by kernel_rfl) rfl rfl k10 rfl rfl rfl ?_
      intro w18 pw18
      replace kf := kf.put k10 pw18 e10
      replace rd := rd.put k10 pw18 e10
      replace k10 := pw18.blk
      refine Seq.nil ?_
      refine Post.weak (F' := [(2, _), (4, _), (5, _), (6, _), (8, _), (9, _), (10, _), (71, _)]) ⟨rfl, rfl, rfl, rfl, rfl, rfl, rfl, rfl, trivial⟩ ?_
      refine Post.then_ ?_
      refine Cd.seq ?_
      refine Cd.region ?_
      refine Seq.val (Runs.move rfl rfl) rfl rfl rfl ?_
      obtain ⟨z3, hz3⟩ : ∃ z, z = valD (txtP 80) [] q2 := ⟨_, rfl⟩
      have hv3 := valD_val1 (txtP 80) [] q2
      have hb3 := txtP_Dbyt rd
      have hc := fun W h => ptext_any g13 q2 W h
      rw [← hz3] at hv3 hb3 hc
      refine Seq.call (Enters.func rfl rfl rfl (run_enter Try.func51 (by kernel_rfl) rfl)) rfl rfl rfl (hc _ rd) ?_
      rintro e w19 ⟨rfl, fw19, rd'⟩
      refine ⟨_, rfl, ?_⟩
      replace kf := kf.kf fw19 rd
      replace k10 := k10.kf fw19 rd
      replace rd := rd'
      clear rd'
      obtain ⟨q3, hq3⟩ : ∃ q', q' = rest (txtP 80) q2 := ⟨_, rfl⟩
      rw [← hq3] at rd
      refine Seq.val (Runs.fieldB 2 rfl rfl Try.underlying23 rfl (by kernel_rfl)) rfl rfl rfl ?_
      refine Seq.store1 rfl rfl rfl (by kernel_rfl) rfl rfl k10 rfl rfl rfl ?_
      intro w20 pw20
      replace kf := kf.put k10 pw20 e10
      replace rd := rd.put k10 pw20 e10
      replace k10 := pw20.blk
      refine Seq.nil ?_
      refine Post.weak (F' := [(2, _), (4, _), (5, _), (6, _), (8, _), (9, _), (10, _), (71, _)]) ⟨rfl, rfl, rfl, rfl, rfl, rfl, rfl, rfl, trivial⟩ ?_
      refine Post.then_ ?_
      refine Cd.seq ?_
      refine Cd.region ?_
      refine Seq.val (Runs.move rfl rfl) rfl rfl rfl ?_
      obtain ⟨z4, hz4⟩ : ∃ z, z = valD (txtP 80) [] q3 := ⟨_, rfl⟩
      have hv4 := valD_val1 (txtP 80) [] q3
      have hb4 := txtP_Dbyt rd
      have hc := fun W h => ptext_any g13 q3 W h
      rw [← hz4] at hv4 hb4 hc
      refine Seq.call (Enters.func rfl rfl rfl (run_enter Try.func51 (by kernel_rfl) rfl)) rfl rfl rfl (hc _ rd) ?_
      rintro e w21 ⟨rfl, fw21, rd'⟩
      refine ⟨_, rfl, ?_⟩
      replace kf := kf.kf fw21 rd
      replace k10 := k10.kf fw21 rd
      replace rd := rd'
      clear rd'
      obtain ⟨q4, hq4⟩ : ∃ q', q' = rest (txtP 80) q3 := ⟨_, rfl⟩
      rw [← hq4] at rd
      refine Seq.val (Runs.fieldB 3 rfl rfl Try.underlying23 rfl (by kernel_rfl)) rfl rfl rfl ?_
      refine Seq.store1 rfl rfl rfl (by kernel_rfl) rfl rfl k10 rfl rfl rfl ?_
      intro w22 pw22
      replace kf := kf.put k10 pw22 e10
      replace rd := rd.put k10 pw22 e10
      replace k10 := pw22.blk
      refine Seq.nil ?_
      refine Post.weak (F' := [(2, _), (4, _), (5, _), (6, _), (8, _), (9, _), (10, _), (71, _)]) ⟨rfl, rfl, rfl, rfl, rfl, rfl, rfl, rfl, trivial⟩ ?_
      refine Post.then_ ?_
      refine Cd.seq ?_
      refine Cd.region ?_
      refine Seq.val (Runs.move rfl rfl) rfl rfl rfl ?_
      obtain ⟨z5, hz5⟩ : ∃ z, z = valD sizeP 0 q4 := ⟨_, rfl⟩
      have hv5 := valD_val1 sizeP 0 q4
      have hb5 := sizeP_D63 rd
      have hc := fun W h => psize_any g13 q4 W h
      rw [← hz5] at hv5 hb5 hc
      refine Seq.call (Enters.func rfl rfl rfl (run_enter Try.func50 (by kernel_rfl) rfl)) rfl rfl rfl (hc _ rd) ?_
      rintro e w23 ⟨rfl, fw23, rd'⟩
      refine ⟨_, rfl, ?_⟩
      replace kf := kf.kf fw23 rd
      replace k10 := k10.kf fw23 rd
      replace rd := rd'
      clear rd'
      obtain ⟨q5, hq5⟩ : ∃ q', q' = rest sizeP q4 := ⟨_, rfl⟩
      rw [← hq5] at rd
      refine Seq.val (Runs.fieldB 4 rfl rfl Try.underlying23 rfl (by kernel_rfl)) rfl rfl rfl ?_
      refine Seq.store1 rfl rfl rfl (by kernel_rfl) rfl rfl k10 rfl rfl rfl ?_
      intro w24 pw24
      replace kf := kf.put k10 pw24 e10
      replace rd := rd.put k10 pw24 e10
      replace k10 := pw24.blk
      refine Seq.nil ?_
      refine Post.weak (F' := [(2, _), (4, _), (5, _), (6, _), (8, _), (9, _), (10, _), (71, _)]) ⟨rfl, rfl, rfl, rfl, rfl, rfl, rfl, rfl, trivial⟩ ?_
      refine Post.then_ ?_
      refine Cd.seq ?_
      refine Cd.region ?_
      refine Seq.val (Runs.move rfl rfl) rfl rfl rfl ?_
      obtain ⟨z6, hz6⟩ : ∃ z, z = valD sizeP 0 q5 := ⟨_, rfl⟩
      have hv6 := valD_val1 sizeP 0 q5
      have hb6 := sizeP_D63 rd
      have hc := fun W h => psize_any g13 q5 W h
      rw [← hz6] at hv6 hb6 hc
      refine Seq.call (Enters.func rfl rfl rfl (run_enter Try.func50 (by kernel_rfl) rfl)) rfl rfl rfl (hc _ rd) ?_
      rintro e w25 ⟨rfl, fw25, rd'⟩
      refine ⟨_, rfl, ?_⟩
      replace kf := kf.kf fw25 rd
      replace k10 := k10.kf fw25 rd
      replace rd := rd'
      clear rd'
      obtain ⟨q6, hq6⟩ : ∃ q', q' = rest sizeP q5 := ⟨_, rfl⟩
      rw [← hq6] at rd
      refine Seq.val (Runs.fieldB 5 rfl rfl Try.underlying23 rfl (by kernel_rfl)) rfl rfl rfl ?_
      refine Seq.store1 rfl rfl rfl (by kernel_rfl) rfl rfl k10 rfl rfl rfl ?_
      intro w26 pw26
      replace kf := kf.put k10 pw26 e10
      replace rd := rd.put k10 pw26 e10
      replace k10 := pw26.blk
      refine Seq.nil ?_
      refine Post.weak (F' := [(2, _), (4, _), (5, _), (6, _), (8, _), (9, _), (10, _), (71, _)]) ⟨rfl, rfl, rfl, rfl, rfl, rfl, rfl, rfl, trivial⟩ ?_
      refine Post.then_ ?_
      refine Cd.region ?_
      replace k2 := k2.kf kf rd0
      replace k5 := k5.kf kf rd0
      replace own := own.kf kf rd0
      replace ownF := ownF.kf kf rd0
      have kf1 := kf0.trans kf
      clear kf
      have kf := kf1
      refine Seq.val (Runs.fieldB 4 rfl rfl Try.underlying32 rfl (by kernel_rfl)) rfl rfl rfl ?_
      refine Seq.val (Runs.loadB rfl rfl Try.underlying25 rfl k5 rfl) rfl rfl rfl ?_
      refine Seq.val (Runs.loadW rfl rfl Try.underlying23 rfl k10 (m := 6) (by kernel_rfl) rfl) rfl rfl rfl ?_
      refine Seq.slice (vs := [_]) (s := 6) rfl rfl rfl Try.underlying25 (by kernel_rfl) (zero_debentureref12_File) (by omega) (by omega) ⟨rfl, trivial⟩ rfl rfl rfl ?_
      intro g96 w27 n96
      have e96 := Nat.le_trans kf.size n96.ge
      have l96 := Nat.lt_of_lt_of_le k5.lt n96.ge
      have l96_k10 := Nat.lt_of_lt_of_le k10.lt n96.ge
      have l96_k2 := Nat.lt_of_lt_of_le k2.lt n96.ge
      replace kf := kf.step n96.below
      replace rd := rd.step n96.below
      replace k10 := k10.step n96.below
      replace k2 := k2.step n96.below
      replace k5 := k5.step n96.below
      replace own := own.step n96.below
      replace ownF := ownF.step n96.below
      have k96 := n96.blk
      have hrd := Reads.blk (size := 6) k96 1 rfl
      refine Seq.append rfl rfl rfl Try.underlying25 (by kernel_rfl) zero_debentureref12_File rfl (by decide) (b := 64) (by kernel_rfl) ownF (hrd) (by intro x hx; simp [flatC, Value.cells] at hx; rcases hx with rfl | rfl | rfl | rfl | rfl | rfl <;> rfl) kf.size (by simp only [maxLen]; omega) (by omega) rfl rfl rfl ?_
      intro vw28 w28 ow28 haw28
      replace kf := kf.app ownF haw28
      replace rd := rd.app ownF haw28
      replace k2 := k2.app ownF haw28
      replace k5 := k5.app ownF haw28
      replace own := own.app ownF haw28
      clear ownF
      have ownF := ow28
      obtain ⟨A2, cA2, rfl, -⟩ := ownF.reads
      refine Seq.val (Runs.fieldB 4 rfl rfl Try.underlying32 rfl (by kernel_rfl)) rfl rfl rfl ?_
      refine Seq.store1 rfl rfl rfl (by kernel_rfl) rfl rfl k5 rfl rfl rfl ?_
      intro w29 pw29
      replace kf := kf.put k5 pw29 e5
      replace rd := rd.put k5 pw29 e5
      replace k2 := k2.put pw29 (by omega)
      replace own := own.put k5 pw29 e5
      replace ownF := ownF.put k5 pw29 e5
      replace k5 := pw29.blk
      refine Seq.nil ?_
      refine Post.weak (F' := [(2, _), (4, _), (5, _), (6, _), (8, _), (9, _), (10, _), (71, _)]) ⟨rfl, rfl, rfl, rfl, rfl, rfl, rfl, rfl, trivial⟩ ?_
      refine Post.block_normal ?_
      refine Post.then_ ?_
      refine Cd.region ?_
      refine Seq.val (Runs.move rfl rfl) rfl rfl rfl ?_
      refine Seq.val (Runs.addI rfl rfl rfl (by omega) (by omega)) rfl rfl rfl ?_
      refine Seq.val (Runs.assign rfl rfl) rfl rfl rfl ?_
      refine Seq.nil ?_
      refine Post.weak (F' := [(2, _), (4, _), (5, _), (6, _), (8, _), (9, _), (10, _), (71, _)]) ⟨rfl, rfl, rfl, rfl, rfl, rfl, rfl, rfl, trivial⟩ ?_
      have hvf : val1 fnP q0 ⟨z1, z2, z3, z4, z5, z6⟩ := by
        subst hq1 hq2 hq3 hq4 hq5
        exact seqP_val hv1 (seqP_val hv2 (seqP_val hv3 (seqP_val hv4 (seqP_val hv5 (seqP_val hv6 (retP_val _))))))
      have hrf : rest fnP q0 = q6 := by
        unfold fnP
        rw [seqP_rest hv1, ← hq1, seqP_rest hv2, ← hq2, seqP_rest hv3, ← hq3, seqP_rest hv4, ← hq4, seqP_rest hv5, ← hq5, seqP_rest hv6, ← hq6, retP_rest]
      refine Post.round (j + 1, accF ++ [⟨z1, z2, z3, z4, z5, z6⟩], _, q6) ⟨rfl, rfl, rfl, rfl, rfl, rfl, trivial⟩ ⟨by simp; omega, fun hh => by omega, fun hh => by simp only; omega, fun _ _ => ?_, fun x hx => ?_, kf, rd, own, by simp only; rw [List.length_append, Fc_snoc]; exact ownF, k2, k5⟩ (by simp only; omega)
      · simp only
        rw [← hRF]
        cases hx : q0.bind fnP with
        | none => rw [← hrf, rest_none hx]; rfl
        | some x =>
          obtain ⟨m2, r⟩ := x
          have := hvf m2 r hx
          rw [← hrf, rest_some hx, this]; rfl
      · rcases List.mem_append.1 hx with hx | hx
        · exact hallF x hx
        · simp at hx
          subst hx
          exact ⟨hb1, hb2, hb5, hb6, hb3, hb4⟩
    · have hvd : val1 (getP sizeP 100) o3 acc := by
        rcases Nat.lt_or_ge 100 n with h1 | h1
        · exact val1_none (by rw [← hR1]; exact hdefX h1)
        · intro a r e
          rw [← hR1, hF1 h1] at e
          cases q with
          | none => cases e
          | some s => injection e with e; injection e
      have hrd : rest (getP sizeP 100) o3 = if n ≤ 100 then q else none := by
        unfold rest
        rw [← hR1]
        split
        · rename_i h1
          rw [hF1 h1]
          cases q <;> rfl
        · rw [hdefX (by omega)]; rfl
      have hF2 : n ≤ 100 → m ≤ 100 → R2 = q0.map fun s => (accF, s) := fun h1 h2 => by
        have hR := hRF h1 h2
        cases q0 with
        | none => exact hR.symm
        | some s =>
          have hb1 : b1 = false := by
            cases b1 with
            | false => rfl
            | true => cases hq0
          subst hb1
          have hjm := hjm h2
          simp at h
          obtain rfl : j = m := by
            rcases Nat.lt_or_ge j m with hlt | hge
            · have := h hlt; omega
            · omega
          rw [Nat.sub_self] at hR
          exact hR.symm
      have hve : val1 (getP fnP 100) (rest (getP sizeP 100) o3) accF := by
        rw [hrd]
        split
        · rename_i h1
          rcases Nat.lt_or_ge 100 m with h2 | h2
          · exact val1_none (by rw [← hR2]; exact hdefY h2)
          · intro a r e
            rw [← hR2, hF2 h1 h2] at e
            cases q0 with
            | none => cases e
            | some s => injection e with e; injection e
        · exact val1_none rfl
      have hval : val1 decP (some s) ⟨a', b', c', acc, accF⟩ := by
        subst ho1 ho2 ho3
        exact seqP_val hva (seqP_val hvb (seqP_val hvc (seqP_val hvd (seqP_val hve (retP_val _)))))
      have hrest : rest decP (some s) = if n ≤ 100 ∧ m ≤ 100 then q0 else none := by
        unfold decP
        rw [seqP_rest hva, ← ho1, seqP_rest hvb, ← ho2, seqP_rest hvc, ← ho3, seqP_rest hvd, seqP_rest hve, retP_rest, hrd]
        by_cases h1 : n ≤ 100
        · rw [if_pos h1]
          unfold rest
          rw [← hR2]
          by_cases h2 : m ≤ 100
          · rw [hF2 h1 h2, if_pos ⟨h1, h2⟩]
            cases q0 <;> rfl
          · rw [hdefY (by omega), if_neg (fun h => h2 h.2)]; rfl
        · rw [if_neg h1, if_neg (fun h => h1 h.1)]; rfl
      have hacF : accF.length ≤ 100 := by
        rcases Nat.lt_or_ge 100 m with h1 | h1
        · rw [haccF (.inr h1)]; simp
        · have := hjm h1; omega
      obtain ⟨L, hL⟩ : ∃ L, L = laidB a' b' c' (DN acc) (accF.map Fn.fl) := ⟨_, rfl⟩
      obtain ⟨A1, c1, hv1, hr1⟩ := own.reads
      injection hv1 with e1 _ e2'
      subst e1 e2'
      obtain ⟨A2, c2, hv2, hr2⟩ := ownF.reads
      injection hv2 with e1 _ e2'
      subst e1 e2'
      have hl := refLaid_any a' b' c' _ A AF cA cF (DN acc) (accF.map Fn.fl) wr (by rw [DN, List.length_map]; exact hr1) (by rw [List.length_map]; exact hr2) (Nat.le_refl _)
      rw [← hL] at hl
      simp only [DN, List.length_map] at hl
      clear h hRF hF1 hF2
      refine Cd.exit ?_
      refine Post.then_exit ?_
      refine Post.round_exit ?_
      refine Post.block_exit ?_
      refine Post.then_ ?_
      refine Cd.seq ?_
      refine Cd.seq ?_
      refine Cd.region ?_
      refine Seq.val (Runs.move rfl rfl) rfl rfl rfl ?_
      refine Seq.val (Runs.nilCheck rfl rfl) rfl rfl rfl ?_
      refine Seq.val (Runs.fieldB 1 rfl rfl Try.underlying96 rfl (by kernel_rfl)) rfl rfl rfl ?_
      refine Seq.val (Runs.loadB rfl rfl Try.underlying4 rfl k13 rfl) rfl rfl rfl ?_
      refine Seq.val (Runs.move rfl rfl) rfl rfl rfl ?_
      refine SeqC.start ?_
      refine SeqC.open rfl rfl rfl rfl rfl rfl rfl (fun hcx => Runs.move rfl rfl) ?_
      refine SeqC.next rfl rfl rfl rfl rfl rfl rfl (fun hcx => Runs.gtr rfl rfl rfl) ?_
      refine SeqC.or rfl rfl rfl rfl rfl rfl rfl ?_
      refine Seq.val (Runs.move rfl rfl) rfl rfl rfl ?_
      refine SeqC.start ?_
      refine SeqC.open rfl rfl rfl rfl rfl rfl rfl (fun hcx => Runs.move rfl rfl) ?_
      refine SeqC.next rfl rfl rfl rfl rfl rfl rfl (fun hcx => Runs.gtr rfl rfl rfl) ?_
      refine SeqC.or rfl rfl rfl rfl rfl rfl rfl ?_
      refine Seq.val (Runs.move rfl rfl) rfl rfl rfl ?_
      refine SeqC.start ?_
      refine SeqC.open rfl rfl rfl rfl rfl rfl rfl (fun hcx => Runs.move rfl rfl) ?_
      refine SeqC.next rfl rfl rfl rfl rfl rfl rfl (fun hcx => Runs.nilCheck rfl rfl) ?_
      refine SeqC.next rfl rfl rfl rfl rfl rfl rfl (fun hcx => Runs.fieldB 0 rfl rfl Try.underlying96 rfl (by kernel_rfl)) ?_
      refine SeqC.next rfl rfl rfl rfl rfl rfl rfl (fun hcx => Runs.loadB rfl rfl Try.underlying9 rfl k13 rfl) ?_
      refine SeqC.next rfl rfl rfl rfl rfl rfl rfl (fun hcx => Runs.lenL rfl rfl Try.underlying9) ?_
      refine SeqC.next rfl rfl rfl rfl rfl rfl rfl (fun hcx => Runs.gtr rfl rfl rfl) ?_
      refine SeqC.or rfl rfl rfl rfl rfl rfl rfl ?_
      refine Seq.val (Runs.move rfl rfl) rfl rfl rfl ?_
      refine SeqC.start ?_
      refine SeqC.open rfl rfl rfl rfl rfl rfl rfl (fun hcx => Runs.loadW rfl rfl Try.underlying32 rfl k5 (m := 5) (by kernel_rfl) rfl) ?_
      refine SeqC.nextC rfl rfl rfl rfl rfl rfl rfl (fun hcx => Enters.func rfl rfl rfl (run_enter Try.func14 (by kernel_rfl) rfl)) (fun hcx => hl) ?_
      intro w13 hw13
      replace k2 := k2.step hw13
      replace kf := kf.step hw13
      replace rd := rd.step hw13
      replace k5 := k5.step hw13
      replace own := own.step hw13
      replace ownF := ownF.step hw13
      refine SeqC.next rfl rfl rfl rfl rfl rfl rfl (fun hcx => Runs.not rfl rfl) ?_
      refine SeqC.or rfl rfl rfl rfl rfl rfl rfl ?_
      refine Seq.nil ?_
      refine Post.weak (F' := [(2, _), (4, _), (5, _), (6, _), (8, _), (9, _), (71, _), (123, _)]) ⟨rfl, rfl, rfl, rfl, rfl, rfl, rfl, rfl, trivial⟩ ?_
      refine Post.then_ ?_
      refine Cd.cond rfl (fun h => ?_) (fun h => ?_)
      · have hD : D = none := by
          rw [hdd]
          cases hx : decP s with
          | none => rfl
          | some x =>
            obtain ⟨x, r⟩ := x
            have e := hval x r hx
            subst e
            have hq : rest decP (some s) = some r := rest_some (o := some s) hx
            rw [hrest] at hq
            split at hq
            · rename_i hnm
              cases r with
              | cons c r => rfl
              | nil =>
                rw [hq] at hq0
                cases b1 with
                | true => cases hq0
                | false =>
                  injection hq0 with hq0
                  subst hq0
                  have hLf : L = false := by
                    cases L with
                    | false => rfl
                    | true =>
                      exfalso
                      simp at h
                      omega
                  subst hLf
                  show (if Ed.laid _ = true then _ else none) = none
                  unfold Ed.laid
                  rw [if_neg (by rw [← hL]; simp)]
            · cases hq
        subst hD
        have bel := belr.trans (kf.to hgB hgl)
        refine Cd.seq ?_
        refine Cd.region ?_
        refine Seq.val (Runs.build rfl rfl (run_build_Rz _)) rfl rfl rfl ?_
        refine Seq.storeN rfl rfl rfl rfl (m := 5) (by kernel_rfl) rfl (by repeat' first | exact trivial | apply And.intro | rfl | assumption) k2 (by simp [Value.cells]) rfl rfl ?_
        intro w14 pw14
        replace bel := bel.put k2 pw14 e2
        replace k2 := pw14.blk
        refine Seq.val (Runs.assign rfl rfl) rfl rfl rfl ?_
        refine Seq.nil ?_
        refine Post.weak (F' := [(2, _), (3, _), (4, _), (5, _), (6, _), (8, _), (9, _), (71, _), (123, _)]) ⟨rfl, rfl, rfl, rfl, rfl, rfl, rfl, rfl, rfl, trivial⟩ ?_
        refine Post.then_ ?_
        refine Cd.ret ?_
        refine Post.then_ret ?_
        refine Post.endC2 rfl rfl rfl k2 Try.underlying32 rfl (m := 5) (by kernel_rfl) rfl (.inl rfl) ?_
        exact ⟨⟨_, rfl, rfl⟩, bel⟩
      · have hD : D = some ⟨a', b', c', acc, accF⟩ := by
          simp only [Bool.or_eq_false_iff, decide_eq_false_iff_not, Bool.not_eq_false'] at h
          obtain ⟨⟨⟨⟨h1, h2⟩, h3⟩, h4⟩, h5⟩ := h
          subst h1
          have hs0 : s1 = [] := by
            cases s1 with
            | nil => rfl
            | cons c r => rw [List.length_cons] at h4; omega
          subst hs0
          have hq0 : q0 = some [] := hq0
          rw [if_pos (by omega), hq0] at hrest
          cases hx : decP s with
          | none =>
            rw [show rest decP (some s) = none from rest_none (o := some s) hx] at hrest
            cases hrest
          | some x =>
            obtain ⟨x, r⟩ := x
            have e := hval x r hx
            subst e
            have hq : rest decP (some s) = some r := rest_some (o := some s) hx
            rw [hrest] at hq
            injection hq with hq
            subst hq
            rw [hdd, hx]
            show (if Ed.laid _ = true then _ else none) = _
            unfold Ed.laid
            rw [if_pos (by rw [← hL]; exact h5)]
        subst hD
        have bel := belr.trans (kf.to hgB hgl)
        refine Cd.skip ?_
        refine Post.then_ ?_
        refine Cd.seq ?_
        refine Cd.region ?_
        refine Seq.val (Runs.loadW rfl rfl Try.underlying32 rfl k5 (m := 5) (by kernel_rfl) rfl) rfl rfl rfl ?_
        refine Seq.storeN rfl rfl rfl rfl (m := 5) (by kernel_rfl) rfl (by repeat' first | exact trivial | apply And.intro | rfl | assumption) k2 (by simp [Value.cells]) rfl rfl ?_
        intro w14 pw14
        replace k5 := k5.put pw14 (by omega)
        replace own := own.put k2 pw14 e2
        replace ownF := ownF.put k2 pw14 e2
        replace bel := bel.put k2 pw14 e2
        replace k2 := pw14.blk
        refine Seq.val (Runs.assign rfl rfl) rfl rfl rfl ?_
        refine Seq.nil ?_
        refine Post.weak (F' := [(2, _), (3, _), (4, _), (5, _), (6, _), (8, _), (9, _), (71, _), (123, _)]) ⟨rfl, rfl, rfl, rfl, rfl, rfl, rfl, rfl, rfl, trivial⟩ ?_
        refine Post.then_ ?_
        refine Cd.ret ?_
        refine Post.endC2 rfl rfl rfl k2 Try.underlying32 rfl (m := 5) (by kernel_rfl) rfl (.inl rfl) ?_
        exact ⟨⟨_, rfl, A, cA, AF, cF, rfl, ⟨own_base own.row belr.size⟩, ⟨own_base ownF.row belr.size⟩⟩, bel⟩
end Go.Proofs.Ythnnephcohljeaa
