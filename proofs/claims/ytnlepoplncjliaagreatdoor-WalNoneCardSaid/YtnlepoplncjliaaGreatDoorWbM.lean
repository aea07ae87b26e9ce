/-
  wal: Append. Condition: numbers within reach, the log's own files.
-/
import Derived.Test.YtnlepoplncjliaaGreatDoorWbL
namespace Go.Proofs.YtnlepoplncjliaaGreatDoor
open Go.RowKit

theorem turned_le (W : Wl) (data : List Nat) : (W.turned data).count ≤ W.count ∧ (W.turned data).num ≤ W.num + 1 ∧ (W.turned data).size ≤ W.size ∧ (W.turned data).broken = W.broken := by
  unfold Wl.turned Wl.rotate
  split
  · split
    · exact ⟨Nat.zero_le _, Nat.le_refl _, Nat.zero_le _, rfl⟩
    · exact ⟨Nat.le_refl _, Nat.le_succ _, Nat.le_refl _, rfl⟩
  · exact ⟨Nat.le_refl _, Nat.le_succ _, Nat.le_refl _, rfl⟩
set_option maxHeartbeats 2000000 in
theorem append_w_any (B g0 gd : Nat) (D : Dk) (nm data : List Nat) (W : Wl) (w : World) (gv : Gv w) (hgB : 4 < B) (e0 : B ≤ g0) (k0 : Blk w g0 80 (W.cs gd nm)) (dk : DkAt w B gd D) (hnm : Byt nm) (hnl : nm.length ≤ 8) (hn : W.num ≤ 1000000) (hc : W.count ≤ 1000000) (hsz : W.size ≤ 1000000000) (hd : Byt data) (hdl : data.length ≤ 100000000) :
    Calls Tryz.prog 15 #[.pointer (some ⟨g0, 0, none⟩), .string (strOf data)] w fun e w' => e = .returned (.int .i64 (appW W D nm data).2.2) ∧ Blk w' g0 80 ((appW W D nm data).1.cs gd nm) ∧ DkAt w' B gd (appW W D nm data).2.1 ∧ Lf B w w' := by
  have lf := Lf.refl B w
  have hB := dk.size
  have hturn := turned_le W data
  unfold appW
  refine Calls.start 62 Tryz.func15 rfl rfl rfl ?_
  refine Cd.seq ?_
  refine Cd.region ?_
  refine Seq.val (Runs.assign rfl rfl) rfl rfl rfl ?_
  refine Seq.nil ?_
  refine Post.weak (F' := [(0, _), (1, _), (4, _)]) ⟨rfl, rfl, rfl, trivial⟩ ?_
  refine Post.then_ ?_
  refine Cd.seq ?_
  refine Cd.seq ?_
  refine Cd.region ?_
  refine Seq.val (Runs.move rfl rfl) rfl rfl rfl ?_
  refine Seq.val (Runs.eqlP rfl rfl rfl Tryz.underlying28) rfl rfl rfl ?_
  refine Seq.nil ?_
  refine Post.weak (F' := [(0, _), (1, _), (4, _), (9, _)]) ⟨rfl, rfl, rfl, rfl, trivial⟩ ?_
  refine Post.then_ ?_
  refine Cd.condF rfl rfl ?_
  refine Cd.skip ?_
  refine Post.then_ ?_
  refine Cd.seq ?_
  refine Cd.region ?_
  refine Seq.val (Runs.move rfl rfl) rfl rfl rfl ?_
  refine Seq.call (Enters.func rfl rfl rfl (run_enter Tryz.func39 (by kernel_rfl) rfl)) rfl rfl rfl (frame_any data _ gv.nib hd hdl) ?_
  rintro e w5 ⟨rfl, hb5⟩
  refine ⟨_, rfl, ?_⟩
  replace lf := lf.step hb5
  replace dk := dk.step hb5
  replace k0 := k0.step hb5
  replace gv := gv.step hb5
  refine Seq.val (Runs.move rfl rfl) rfl rfl rfl ?_
  refine Seq.val (Runs.extract rfl rfl rfl) rfl rfl rfl ?_
  refine Seq.val (Runs.extract rfl rfl rfl) rfl rfl rfl ?_
  refine Seq.val (Runs.assign rfl rfl) rfl rfl rfl ?_
  refine Seq.val (Runs.assign rfl rfl) rfl rfl rfl ?_
  refine Seq.nil ?_
  refine Post.weak (F' := [(0, _), (1, _), (4, _), (5, _), (6, _), (9, _)]) ⟨rfl, rfl, rfl, rfl, rfl, rfl, trivial⟩ ?_
  refine Post.then_ ?_
  refine Cd.seq ?_
  refine Cd.block ?_
  refine Cd.seq ?_
  refine Cd.region ?_
  refine Seq.val (Runs.move rfl rfl) rfl rfl rfl ?_
  refine Seq.val (Runs.not rfl rfl) rfl rfl rfl ?_
  refine Seq.val (Runs.assign rfl rfl) rfl rfl rfl ?_
  refine Seq.nil ?_
  refine Post.weak (F' := [(0, _), (1, _), (4, _), (5, _), (6, _), (9, _), (15, _)]) ⟨rfl, rfl, rfl, rfl, rfl, rfl, rfl, trivial⟩ ?_
  refine Post.then_ ?_
  refine Cd.cond rfl (fun h => ?_) (fun h => ?_)
  · have h : 131072 < data.length := by
      have h' : (!decide (data.length ≤ 131072)) = true := h
      rw [Bool.not_eq_true', decide_eq_false_iff_not] at h'
      omega
    rw [if_pos h]
    refine Cd.seq ?_
    refine Cd.region ?_
    refine Seq.val (Runs.assign rfl rfl) rfl rfl rfl ?_
    refine Seq.nil ?_
    refine Post.weak (F' := [(0, _), (1, _), (4, _), (5, _), (6, _), (9, _), (15, _)]) ⟨rfl, rfl, rfl, rfl, rfl, rfl, rfl, trivial⟩ ?_
    refine Post.then_ ?_
    refine Cd.ret ?_
    refine Post.block_ret ?_
    refine Post.then_ret ?_
    refine Post.end1 rfl rfl (.inl rfl) ?_
    exact ⟨rfl, k0, dk, lf⟩
  have hlen : data.length ≤ 131072 := by
    have h' : (!decide (data.length ≤ 131072)) = false := h
    rw [Bool.not_eq_false', decide_eq_true_eq] at h'
    exact h'
  rw [if_neg (by omega), if_pos hlen]
  obtain ⟨W0, hW0⟩ : ∃ x, x = W := ⟨_, rfl⟩
  have k0' := k0
  rw [← hW0] at k0'
  obtain ⟨num, count, size, broken⟩ := W0
  clear k0
  have k0 := k0'
  clear k0'
  unfold Wl.cs at k0
  simp only at k0
  have hbr : W.broken = broken := by rw [← hW0]
  refine Cd.seq ?_
  refine Cd.region ?_
  refine Seq.val (Runs.move rfl rfl) rfl rfl rfl ?_
  refine Seq.val (Runs.nilCheck rfl rfl) rfl rfl rfl ?_
  refine Seq.val (Runs.fieldB 5 rfl rfl Tryz.underlying80 rfl (by kernel_rfl)) rfl rfl rfl ?_
  refine Seq.val (Runs.loadB rfl rfl Tryz.underlying4 rfl k0 rfl) rfl rfl rfl ?_
  refine Seq.val (Runs.assign rfl rfl) rfl rfl rfl ?_
  refine Seq.nil ?_
  refine Post.weak (F' := [(0, _), (1, _), (4, _), (5, _), (6, _), (9, _), (15, _), (18, _)]) ⟨rfl, rfl, rfl, rfl, rfl, rfl, rfl, rfl, trivial⟩ ?_
  refine Post.then_ ?_
  refine Cd.cond rfl (fun h => ?_) (fun h => ?_)
  · have h : broken = true := h
    rw [if_pos (by rw [hbr]; exact h), ← hW0]
    refine Cd.seq ?_
    refine Cd.region ?_
    refine Seq.val (Runs.assign rfl rfl) rfl rfl rfl ?_
    refine Seq.nil ?_
    refine Post.weak (F' := [(0, _), (1, _), (4, _), (5, _), (6, _), (9, _), (15, _), (18, _)]) ⟨rfl, rfl, rfl, rfl, rfl, rfl, rfl, rfl, trivial⟩ ?_
    refine Post.then_ ?_
    refine Cd.ret ?_
    refine Post.block_ret ?_
    refine Post.then_ret ?_
    refine Post.end1 rfl rfl (.inl rfl) ?_
    exact ⟨rfl, k0, dk, lf⟩
  have h : broken = false := h
  subst h
  rw [if_neg (by rw [hbr]; simp)]
  obtain ⟨fr, hfr⟩ : ∃ x, x = frameN data := ⟨_, rfl⟩
  have hfl : fr.length = data.length + 12 := by rw [hfr, frameN_len]
  have hfb : Byt fr := by rw [hfr]; exact frameN_lt hd
  rw [← hfr]
  have hW'e : W.turned data = if 1048576 - (size : Int) < (fr.length : Int) then (Wl.mk num count size false).rotate else ⟨num, count, size, false⟩ := by rw [← hW0, hfl]; rfl
  have hsz0 : size ≤ 1000000000 := by rw [← hW0] at hsz; exact hsz
  have hn0 : num ≤ 1000000 := by rw [← hW0] at hn; exact hn
  have hc0 : W.count = count := by rw [← hW0]
  have hs0 : W.size = size := by rw [← hW0]
  have hn1 : W.num = num := by rw [← hW0]
  obtain ⟨W', hW'⟩ : ∃ x, x = W.turned data := ⟨_, rfl⟩
  rw [← hW'] at hturn hW'e
  rw [← hW']
  refine Cd.skip ?_
  refine Post.block_normal ?_
  refine Post.then_ ?_
  refine Cd.seqJ (σ := Unit) (fun _ => [(0, .pointer (some ⟨g0, 0, none⟩)), (5, .string (strOf fr))]) (fun _ wr => Blk wr g0 80 (W'.cs gd nm) ∧ DkAt wr B gd D ∧ Lf B w wr ∧ Gv wr) ?_ ?_
  · skip
    refine Cd.seq ?_
    refine Cd.region ?_
    refine Seq.val (Runs.move rfl rfl) rfl rfl rfl ?_
    refine Seq.val (Runs.lenL rfl rfl Tryz.underlying9) rfl rfl rfl ?_
    refine Seq.val (Runs.move rfl rfl) rfl rfl rfl ?_
    refine Seq.val (Runs.nilCheck rfl rfl) rfl rfl rfl ?_
    refine Seq.val (Runs.fieldB 4 rfl rfl Tryz.underlying80 rfl (by kernel_rfl)) rfl rfl rfl ?_
    refine Seq.val (Runs.loadB rfl rfl Tryz.underlying3 rfl k0 rfl) rfl rfl rfl ?_
    refine Seq.val (Runs.subI rfl rfl rfl (by omega) (by omega)) rfl rfl rfl ?_
    refine Seq.val (Runs.gtr rfl rfl rfl) rfl rfl rfl ?_
    refine Seq.nil ?_
    refine Post.weak (F' := [(0, _), (1, _), (4, _), (5, _), (6, _), (9, _), (15, _), (18, _), (30, _)]) ⟨rfl, rfl, rfl, rfl, rfl, rfl, rfl, rfl, rfl, trivial⟩ ?_
    refine Post.then_ ?_
    refine Cd.cond rfl (fun h => ?_) (fun h => ?_)
    · have h : 1048576 - (size : Int) < (fr.length : Int) := by simpa using h
      rw [if_pos h] at hW'e
      rw [hW'e]
      refine Cd.region ?_
      refine Seq.val (Runs.move rfl rfl) rfl rfl rfl ?_
      refine Seq.call (Enters.func rfl rfl rfl (run_enter Tryz.func29 (by kernel_rfl) rfl)) rfl rfl rfl (rotate_any B g0 gd D nm ⟨num, count, size, false⟩ _ e0 (by have := lf.size; omega) k0 dk (by show num ≤ _; omega)) ?_
      clear k0 dk
      rintro e w1 ⟨rfl, k0, dk, fw1⟩
      refine ⟨_, rfl, ?_⟩
      replace lf := lf.lf fw1
      replace gv := gv.lf fw1
      refine Seq.nil ?_
      refine Post.weak (F' := [(0, _), (1, _), (4, _), (5, _), (6, _), (9, _), (15, _), (18, _), (30, _)]) ⟨rfl, rfl, rfl, rfl, rfl, rfl, rfl, rfl, rfl, trivial⟩ ?_
      exact Post.join () ⟨rfl, rfl, trivial⟩ ⟨k0, dk, lf, gv⟩
    · have h : ¬ (1048576 - (size : Int) < (fr.length : Int)) := by simpa using h
      rw [if_neg h] at hW'e
      rw [hW'e]
      refine Cd.skip ?_
      exact Post.join () ⟨rfl, rfl, trivial⟩ ⟨k0, dk, lf, gv⟩
  clear lf dk k0 gv
  rintro ⟨⟩ wj ⟨k0, dk, lf, gv⟩
  obtain ⟨ht1, ht2, ht3, ht4⟩ := hturn
  clear hW'e hW'
  obtain ⟨num', count', size', broken'⟩ := W'
  simp only at ht1 ht2 ht3 ht4
  simp only
  obtain rfl : broken' = false := by rw [ht4, hbr]
  refine Cd.seq ?_
  refine Cd.seq ?_
  refine Cd.region ?_
  refine Seq.val (Runs.move rfl rfl) rfl rfl rfl ?_
  refine Seq.val (Runs.move rfl rfl) rfl rfl rfl ?_
  refine Seq.call (Enters.func rfl rfl rfl (run_enter Tryz.func40 (by kernel_rfl) rfl)) rfl rfl rfl (room_any B g0 gd D nm fr ⟨num', count', size', false⟩ _ k0 dk (by omega)) ?_
  rintro e w6 ⟨rfl, hb6⟩
  refine ⟨_, rfl, ?_⟩
  rw [hfl]
  simp only
  replace lf := lf.step hb6
  replace dk := dk.step hb6
  replace k0 := k0.step hb6
  replace gv := gv.step hb6
  refine Seq.val (Runs.not rfl rfl) rfl rfl rfl ?_
  refine Seq.nil ?_
  refine Post.weak (F' := [(0, _), (5, _), (36, _)]) ⟨rfl, rfl, rfl, trivial⟩ ?_
  refine Post.then_ ?_
  refine Cd.cond rfl (fun h => ?_) (fun h => ?_)
  · have h : roomW D num' count' (data.length + 12) = false := by simpa using h
    rw [if_pos h]
    refine Cd.seq ?_
    refine Cd.region ?_
    refine Seq.val (Runs.assign rfl rfl) rfl rfl rfl ?_
    refine Seq.nil ?_
    refine Post.weak (F' := [(0, _), (4, _), (5, _), (36, _)]) ⟨rfl, rfl, rfl, rfl, trivial⟩ ?_
    refine Post.then_ ?_
    refine Cd.ret ?_
    refine Post.then_ret ?_
    refine Post.end1 rfl rfl (.inl rfl) ?_
    exact ⟨rfl, k0, dk, lf⟩
  have h : roomW D num' count' (data.length + 12) = true := by simpa using h
  rw [if_neg (by simp [h])]
  have hn6 : num' ≤ 999999 := by
    unfold roomW at h
    rw [Bool.and_eq_true, decide_eq_true_eq] at h
    exact h.2
  refine Cd.skip ?_
  refine Post.then_ ?_
  refine Cd.seq ?_
  refine Cd.seq ?_
  refine Cd.region ?_
  refine Seq.val (Runs.move rfl rfl) rfl rfl rfl ?_
  refine Seq.val (Runs.move rfl rfl) rfl rfl rfl ?_
  refine Seq.call (Enters.func rfl rfl rfl (run_enter Tryz.func41 (by kernel_rfl) rfl)) rfl rfl rfl (lay_any B g0 gd D nm fr ⟨num', count', size', false⟩ _ gv hgB k0 dk hnm hnl hn6 (by show count' ≤ _; omega) hfb (by omega)) ?_
  clear dk
  rintro e w1 ⟨rfl, dk, fw1⟩
  refine ⟨_, rfl, ?_⟩
  replace lf := lf.df fw1
  replace k0 := k0.df fw1
  replace gv := gv.df fw1
  simp only at dk
  simp only
  unfold Wl.cs at k0
  simp only at k0
  refine Seq.val (Runs.assign rfl rfl) rfl rfl rfl ?_
  refine Seq.nil ?_
  refine Post.weak (F' := [(0, _), (5, _), (7, _), (36, _)]) ⟨rfl, rfl, rfl, rfl, trivial⟩ ?_
  refine Post.then_ ?_
  refine Cd.seq ?_
  refine Cd.region ?_
  refine Seq.val (Runs.move rfl rfl) rfl rfl rfl ?_
  refine Seq.val (Runs.neqI rfl rfl rfl) rfl rfl rfl ?_
  refine Seq.nil ?_
  refine Post.weak (F' := [(0, _), (5, _), (7, _), (36, _), (41, _)]) ⟨rfl, rfl, rfl, rfl, rfl, trivial⟩ ?_
  refine Post.then_ ?_
  refine Cd.cond rfl (fun h => ?_) (fun h => ?_)
  · have h : (D.lay nm num' count' fr).2 ≠ 0 := by simpa using h
    rw [if_pos h]
    refine Cd.seq ?_
    refine Cd.region ?_
    refine Seq.val (Runs.move rfl rfl) rfl rfl rfl ?_
    refine Seq.val (Runs.nilCheck rfl rfl) rfl rfl rfl ?_
    refine Seq.val (Runs.fieldB 5 rfl rfl Tryz.underlying80 rfl (by kernel_rfl)) rfl rfl rfl ?_
    refine Seq.store1 rfl rfl rfl (by kernel_rfl) rfl rfl k0 rfl rfl rfl ?_
    intro w2 pw2
    replace lf := lf.put k0 pw2 e0
    replace dk := dk.put k0 pw2 e0
    replace gv := gv.put k0 pw2 e0
    replace k0 := pw2.blk
    refine Seq.nil ?_
    refine Post.weak (F' := [(0, _), (5, _), (7, _), (36, _), (41, _)]) ⟨rfl, rfl, rfl, rfl, rfl, trivial⟩ ?_
    refine Post.then_ ?_
    refine Cd.seq ?_
    refine Cd.region ?_
    refine Seq.val (Runs.move rfl rfl) rfl rfl rfl ?_
    refine Seq.val (Runs.assign rfl rfl) rfl rfl rfl ?_
    refine Seq.nil ?_
    refine Post.weak (F' := [(0, _), (4, _), (5, _), (7, _), (36, _), (41, _)]) ⟨rfl, rfl, rfl, rfl, rfl, rfl, trivial⟩ ?_
    refine Post.then_ ?_
    refine Cd.ret ?_
    refine Post.then_ret ?_
    refine Post.end1 rfl rfl (.inl rfl) ?_
    exact ⟨rfl, k0, dk, lf⟩
  have h : ¬ ((D.lay nm num' count' fr).2 ≠ 0) := by simpa using h
  rw [if_neg h]
  refine Cd.skip ?_
  refine Post.then_ ?_
  refine Cd.seq ?_
  refine Cd.region ?_
  refine Seq.val (Runs.move rfl rfl) rfl rfl rfl ?_
  refine Seq.val (Runs.nilCheck rfl rfl) rfl rfl rfl ?_
  refine Seq.val (Runs.fieldB 3 rfl rfl Tryz.underlying80 rfl (by kernel_rfl)) rfl rfl rfl ?_
  refine Seq.val (Runs.loadB rfl rfl Tryz.underlying3 rfl k0 rfl) rfl rfl rfl ?_
  refine Seq.val (Runs.addI rfl rfl rfl (by omega) (by omega)) rfl rfl rfl ?_
  refine Seq.val (Runs.nilCheck rfl rfl) rfl rfl rfl ?_
  refine Seq.val (Runs.fieldB 3 rfl rfl Tryz.underlying80 rfl (by kernel_rfl)) rfl rfl rfl ?_
  refine Seq.store1 rfl rfl rfl (by kernel_rfl) rfl rfl k0 rfl rfl rfl ?_
  intro w2 pw2
  replace lf := lf.put k0 pw2 e0
  replace dk := dk.put k0 pw2 e0
  replace gv := gv.put k0 pw2 e0
  replace k0 := pw2.blk
  refine Seq.nil ?_
  refine Post.weak (F' := [(0, _), (5, _), (7, _), (36, _), (41, _)]) ⟨rfl, rfl, rfl, rfl, rfl, trivial⟩ ?_
  refine Post.then_ ?_
  refine Cd.seq ?_
  refine Cd.region ?_
  refine Seq.val (Runs.move rfl rfl) rfl rfl rfl ?_
  refine Seq.val (Runs.nilCheck rfl rfl) rfl rfl rfl ?_
  refine Seq.val (Runs.fieldB 4 rfl rfl Tryz.underlying80 rfl (by kernel_rfl)) rfl rfl rfl ?_
  refine Seq.val (Runs.loadB rfl rfl Tryz.underlying3 rfl k0 rfl) rfl rfl rfl ?_
  refine Seq.val (Runs.move rfl rfl) rfl rfl rfl ?_
  refine Seq.val (Runs.lenL rfl rfl Tryz.underlying9) rfl rfl rfl ?_
  refine Seq.val (Runs.addI rfl rfl rfl (by omega) (by omega)) rfl rfl rfl ?_
  refine Seq.val (Runs.nilCheck rfl rfl) rfl rfl rfl ?_
  refine Seq.val (Runs.fieldB 4 rfl rfl Tryz.underlying80 rfl (by kernel_rfl)) rfl rfl rfl ?_
  refine Seq.store1 rfl rfl rfl (by kernel_rfl) rfl rfl k0 rfl rfl rfl ?_
  intro w3 pw3
  replace lf := lf.put k0 pw3 e0
  replace dk := dk.put k0 pw3 e0
  replace gv := gv.put k0 pw3 e0
  replace k0 := pw3.blk
  refine Seq.nil ?_
  refine Post.weak (F' := [(0, _), (5, _), (7, _), (36, _), (41, _)]) ⟨rfl, rfl, rfl, rfl, rfl, trivial⟩ ?_
  refine Post.then_ ?_
  refine Cd.seq ?_
  refine Cd.region ?_
  refine Seq.val (Runs.assign rfl rfl) rfl rfl rfl ?_
  refine Seq.nil ?_
  refine Post.weak (F' := [(0, _), (4, _), (5, _), (7, _), (36, _), (41, _)]) ⟨rfl, rfl, rfl, rfl, rfl, rfl, trivial⟩ ?_
  refine Post.then_ ?_
  refine Cd.ret ?_
  refine Post.end1 rfl rfl (.inl rfl) ?_
  refine ⟨rfl, ?_, dk, lf⟩
  unfold Wl.cs
  simp only
  rw [← hfl]
  exact k0
end Go.Proofs.YtnlepoplncjliaaGreatDoor
