/-
  Texts that were joined: WbI, WbJ, WbK, WbL, WbM, WcC, WeC, WdA, WdB, WeD, WfA, WfB, WgA, WgB, WgC, WhA, WhB, WhC, WhD, WhE, WhF, WiA. Conditions: what each theorem names.
-/
import Derived.Test.YtnlepoplncjliaaGreatDoorZ2
set_option linter.unusedSectionVars false
namespace Go.Proofs.YtnlepoplncjliaaGreatDoor
open Go.RowKit

theorem datN_ok {D : Dk} (h : D.ok) (x : List Nat) : Byt (D.datN x) ∧ (D.datN x).length ≤ 1048576 := by
  unfold Dk.datN
  cases e : D.get x with
  | none => exact ⟨(by intro d hd; cases hd), (by simp)⟩
  | some f => exact ⟨(h.fil _ (get_mem e)).1.1, (h.fil _ (get_mem e)).1.2.2⟩
set_option maxHeartbeats 2000000 in
theorem segment_any (B g0 gd n : Nat) (D : Dk) (nm : List Nat) (num count size : Int) (broken : Bool) (w : World) (gv : Gv w) (hgB : 4 < B) (k0 : Blk w g0 80 (wlCs gd nm num count size broken)) (dk : DkAt w B gd D) (hoff : D.off = false) (hn : n ≤ 999999) (hnm : Byt nm) (hnl : nm.length ≤ 8) :
    Calls Tryz.prog 38 #[.pointer (some ⟨g0, 0, none⟩), .int .i64 (n : Int)] w fun e w' => ∃ v, e = .returned (.tuple #[v, .int .i64 (segN D nm n).2.1]) ∧ Own w' w.heap.size 9 1 v (segN D nm n).2.2.length (Ts (segN D nm n).2.2) ∧ DkAt w' B gd (segN D nm n).1 ∧ Df B w w' := by
  have df := Df.refl B w
  have hlb := fileN_byt n hnm logK_byt
  have hab := fileN_byt n hnm ackK_byt
  have hsl := datN_ok dk.ok (fileN nm n logK)
  have htl := datN_ok dk.ok (fileN nm n ackK)
  unfold segN
  refine Calls.start 75 Tryz.func38 rfl rfl rfl ?_
  refine Cd.seq ?_
  refine Cd.region ?_
  refine Seq.val (Runs.assign rfl rfl) rfl rfl rfl ?_
  refine Seq.val (Runs.assign rfl rfl) rfl rfl rfl ?_
  refine Seq.nil ?_
  refine Post.weak (F' := [(0, _), (1, _), (4, _), (5, _)]) ⟨rfl, rfl, rfl, rfl, trivial⟩ ?_
  refine Post.then_ ?_
  refine Cd.seq ?_
  refine Cd.region ?_
  refine Seq.val (Runs.move rfl rfl) rfl rfl rfl ?_
  refine Seq.val (Runs.move rfl rfl) rfl rfl rfl ?_
  refine Seq.val (Runs.move rfl rfl) rfl rfl rfl ?_
  refine Seq.call (Enters.func rfl rfl rfl (run_enter Tryz.func50 (by kernel_rfl) rfl)) rfl rfl rfl (file_any g0 gd n nm logK num count size broken _ gv k0 hn (by omega) (by decide)) ?_
  rintro e w5 ⟨rfl, hb5⟩
  refine ⟨_, rfl, ?_⟩
  replace df := df.step hb5
  replace dk := dk.step hb5
  replace k0 := k0.step hb5
  replace gv := gv.step hb5
  refine Seq.call (Enters.func rfl rfl rfl (run_enter Tryz.func59 (by kernel_rfl) rfl)) rfl rfl rfl (wread_any B g0 gd D nm (fileN nm n logK) num count size broken _ k0 dk hoff hlb) ?_
  rintro e w6 ⟨rfl, hb6⟩
  refine ⟨_, rfl, ?_⟩
  replace df := df.step hb6
  replace dk := dk.step hb6
  replace k0 := k0.step hb6
  replace gv := gv.step hb6
  refine Seq.val (Runs.move rfl rfl) rfl rfl rfl ?_
  refine Seq.val (Runs.extract rfl rfl rfl) rfl rfl rfl ?_
  refine Seq.val (Runs.extract rfl rfl rfl) rfl rfl rfl ?_
  refine Seq.val (Runs.assign rfl rfl) rfl rfl rfl ?_
  refine Seq.val (Runs.assign rfl rfl) rfl rfl rfl ?_
  refine Seq.nil ?_
  refine Post.weak (F' := [(0, _), (1, _), (4, _), (5, _), (6, _), (7, _)]) ⟨rfl, rfl, rfl, rfl, rfl, rfl, trivial⟩ ?_
  refine Post.then_ ?_
  refine Cd.seq ?_
  refine Cd.seq ?_
  refine Cd.region ?_
  refine Seq.val (Runs.move rfl rfl) rfl rfl rfl ?_
  refine Seq.val (Runs.neqI rfl rfl rfl) rfl rfl rfl ?_
  refine Seq.nil ?_
  refine Post.weak (F' := [(0, _), (1, _), (4, _), (5, _), (6, _), (7, _), (23, _)]) ⟨rfl, rfl, rfl, rfl, rfl, rfl, rfl, trivial⟩ ?_
  refine Post.then_ ?_
  refine Cd.condF rfl rfl ?_
  refine Cd.skip ?_
  refine Post.then_ ?_
  refine Cd.seq ?_
  refine Cd.region ?_
  refine Seq.val (Runs.move rfl rfl) rfl rfl rfl ?_
  refine Seq.val (Runs.move rfl rfl) rfl rfl rfl ?_
  refine Seq.val (Runs.move rfl rfl) rfl rfl rfl ?_
  refine Seq.call (Enters.func rfl rfl rfl (run_enter Tryz.func50 (by kernel_rfl) rfl)) rfl rfl rfl (file_any g0 gd n nm ackK num count size broken _ gv k0 hn (by omega) (by decide)) ?_
  rintro e w7 ⟨rfl, hb7⟩
  refine ⟨_, rfl, ?_⟩
  replace df := df.step hb7
  replace dk := dk.step hb7
  replace k0 := k0.step hb7
  replace gv := gv.step hb7
  refine Seq.call (Enters.func rfl rfl rfl (run_enter Tryz.func59 (by kernel_rfl) rfl)) rfl rfl rfl (wread_any B g0 gd D nm (fileN nm n ackK) num count size broken _ k0 dk hoff hab) ?_
  rintro e w8 ⟨rfl, hb8⟩
  refine ⟨_, rfl, ?_⟩
  replace df := df.step hb8
  replace dk := dk.step hb8
  replace k0 := k0.step hb8
  replace gv := gv.step hb8
  obtain ⟨s, hs⟩ : ∃ x, x = D.datN (fileN nm n logK) := ⟨_, rfl⟩
  obtain ⟨t, ht⟩ : ∃ x, x = D.datN (fileN nm n ackK) := ⟨_, rfl⟩
  rw [← hs] at hsl
  rw [← ht] at htl
  rw [← hs, ← ht]
  clear hs ht
  refine Seq.val (Runs.move rfl rfl) rfl rfl rfl ?_
  refine Seq.val (Runs.extract rfl rfl rfl) rfl rfl rfl ?_
  refine Seq.val (Runs.extract rfl rfl rfl) rfl rfl rfl ?_
  refine Seq.val (Runs.assign rfl rfl) rfl rfl rfl ?_
  refine Seq.val (Runs.assign rfl rfl) rfl rfl rfl ?_
  refine Seq.nil ?_
  refine Post.weak (F' := [(0, _), (1, _), (4, _), (5, _), (6, _), (7, _), (8, _), (23, _)]) ⟨rfl, rfl, rfl, rfl, rfl, rfl, rfl, rfl, trivial⟩ ?_
  refine Post.then_ ?_
  refine Cd.seq ?_
  refine Cd.seq ?_
  refine Cd.region ?_
  refine Seq.val (Runs.move rfl rfl) rfl rfl rfl ?_
  refine Seq.val (Runs.neqI rfl rfl rfl) rfl rfl rfl ?_
  refine Seq.nil ?_
  refine Post.weak (F' := [(0, _), (1, _), (4, _), (5, _), (6, _), (7, _), (8, _), (23, _), (34, _)]) ⟨rfl, rfl, rfl, rfl, rfl, rfl, rfl, rfl, rfl, trivial⟩ ?_
  refine Post.then_ ?_
  refine Cd.condF rfl rfl ?_
  refine Cd.skip ?_
  refine Post.then_ ?_
  refine Cd.seq ?_
  refine Cd.region ?_
  refine Seq.val (Runs.move rfl rfl) rfl rfl rfl ?_
  refine Seq.call (Enters.func rfl rfl rfl (run_enter Tryz.func60 (by kernel_rfl) rfl)) rfl rfl rfl (all_any s _ gv.nib hsl.1 (by omega)) ?_
  rintro e w9 ⟨v, rfl, own, hb9⟩
  refine ⟨_, rfl, ?_⟩
  replace own := own.mono df.size
  replace df := df.step hb9
  replace dk := dk.step hb9
  replace k0 := k0.step hb9
  replace gv := gv.step hb9
  have hend := allGo_len s.length s
  rw [show allGo s.length s = allN s from rfl] at hend
  obtain ⟨L, hL⟩ : ∃ x, x = (allN s).1 := ⟨_, rfl⟩
  obtain ⟨en, hen⟩ : ∃ x, x = (allN s).2.1 := ⟨_, rfl⟩
  rw [← hL, ← hen] at hend
  rw [← hL] at own
  rw [← hL, ← hen]
  obtain ⟨A, c, rfl, -⟩ := own.reads
  have hcap := own.cap
  refine Seq.val (Runs.move rfl rfl) rfl rfl rfl ?_
  refine Seq.val (Runs.extract rfl rfl rfl) rfl rfl rfl ?_
  refine Seq.val (Runs.extract rfl rfl rfl) rfl rfl rfl ?_
  refine Seq.val (Runs.extract rfl rfl rfl) rfl rfl rfl ?_
  refine Seq.val (Runs.assign rfl rfl) rfl rfl rfl ?_
  refine Seq.val (Runs.assign rfl rfl) rfl rfl rfl ?_
  refine Seq.val (Runs.assign rfl rfl) rfl rfl rfl ?_
  refine Seq.nil ?_
  refine Post.weak (F' := [(0, _), (1, _), (4, _), (5, _), (6, _), (7, _), (8, _), (9, _), (10, _), (23, _), (34, _)]) ⟨rfl, rfl, rfl, rfl, rfl, rfl, rfl, rfl, rfl, rfl, rfl, trivial⟩ ?_
  refine Post.then_ ?_
  refine Cd.seq ?_
  refine Cd.region ?_
  refine Seq.val (Runs.move rfl rfl) rfl rfl rfl ?_
  refine Seq.call (Enters.func rfl rfl rfl (run_enter Tryz.func61 (by kernel_rfl) rfl)) rfl rfl rfl (counted_any t _ gv.nib htl.1 (by omega)) ?_
  rintro e w10 ⟨rfl, hb10⟩
  refine ⟨_, rfl, ?_⟩
  replace df := df.step hb10
  replace dk := dk.step hb10
  replace k0 := k0.step hb10
  replace gv := gv.step hb10
  replace own := own.step hb10
  obtain ⟨k, hk⟩ : ∃ x, x = (countN t).1 := ⟨_, rfl⟩
  obtain ⟨sl, hsl2⟩ : ∃ x, x = (countN t).2 := ⟨_, rfl⟩
  rw [← hk, ← hsl2]
  refine Seq.val (Runs.move rfl rfl) rfl rfl rfl ?_
  refine Seq.val (Runs.extract rfl rfl rfl) rfl rfl rfl ?_
  refine Seq.val (Runs.extract rfl rfl rfl) rfl rfl rfl ?_
  refine Seq.val (Runs.assign rfl rfl) rfl rfl rfl ?_
  refine Seq.val (Runs.assign rfl rfl) rfl rfl rfl ?_
  refine Seq.nil ?_
  refine Post.weak (F' := [(0, _), (1, _), (4, _), (5, _), (6, _), (7, _), (8, _), (9, _), (10, _), (12, _), (13, _), (23, _), (34, _)]) ⟨rfl, rfl, rfl, rfl, rfl, rfl, rfl, rfl, rfl, rfl, rfl, rfl, rfl, trivial⟩ ?_
  refine Post.then_ ?_
  refine Cd.seq ?_
  refine Cd.block ?_
  refine Cd.seq ?_
  refine Cd.region ?_
  refine Seq.val (Runs.move rfl rfl) rfl rfl rfl ?_
  refine Seq.val (Runs.len rfl rfl Tryz.underlying22) rfl rfl rfl ?_
  refine Seq.val (Runs.move rfl rfl) rfl rfl rfl ?_
  refine Seq.val (Runs.lss rfl rfl rfl) rfl rfl rfl ?_
  refine Seq.val (Runs.assign rfl rfl) rfl rfl rfl ?_
  refine Seq.nil ?_
  refine Post.weak (F' := [(0, _), (1, _), (4, _), (5, _), (6, _), (7, _), (8, _), (9, _), (10, _), (12, _), (13, _), (23, _), (34, _), (47, _)]) ⟨rfl, rfl, rfl, rfl, rfl, rfl, rfl, rfl, rfl, rfl, rfl, rfl, rfl, rfl, trivial⟩ ?_
  refine Post.then_ ?_
  refine Cd.cond rfl (fun h => ?_) (fun h => ?_)
  · have h : L.length < k := by
      have h' : ((L.length : Int) < (k : Int)) := by simpa using h
      omega
    rw [if_pos h]
    refine Cd.seq ?_
    refine Cd.region ?_
    refine Seq.val (Runs.assign rfl rfl) rfl rfl rfl ?_
    refine Seq.val (Runs.assign rfl rfl) rfl rfl rfl ?_
    refine Seq.nil ?_
    refine Post.weak (F' := [(0, _), (1, _), (4, _), (5, _), (6, _), (7, _), (8, _), (9, _), (10, _), (12, _), (13, _), (23, _), (34, _), (47, _)]) ⟨rfl, rfl, rfl, rfl, rfl, rfl, rfl, rfl, rfl, rfl, rfl, rfl, rfl, rfl, trivial⟩ ?_
    refine Post.then_ ?_
    refine Cd.ret ?_
    refine Post.block_ret ?_
    refine Post.then_ret ?_
    refine Post.end2 rfl rfl rfl (.inl rfl) ?_
    exact ⟨_, rfl, Own.nil _ _ _ _, dk, df⟩
  have h : ¬ (L.length < k) := by
    have h' : ¬ ((L.length : Int) < (k : Int)) := by simpa using h
    omega
  rw [if_neg h]
  refine Cd.seq ?_
  refine Cd.region ?_
  refine Seq.val (Runs.move rfl rfl) rfl rfl rfl ?_
  refine Seq.val (Runs.assign rfl rfl) rfl rfl rfl ?_
  refine Seq.nil ?_
  refine Post.weak (F' := [(0, _), (1, _), (4, _), (5, _), (6, _), (7, _), (8, _), (9, _), (10, _), (12, _), (13, _), (23, _), (34, _), (47, _), (52, _)]) ⟨rfl, rfl, rfl, rfl, rfl, rfl, rfl, rfl, rfl, rfl, rfl, rfl, rfl, rfl, rfl, trivial⟩ ?_
  refine Post.then_ ?_
  refine Cd.cond rfl (fun h => ?_) (fun h => ?_)
  · have h : sl = true := h
    rw [if_pos h]
    refine Cd.seq ?_
    refine Cd.region ?_
    refine Seq.val (Runs.move rfl rfl) rfl rfl rfl ?_
    refine Seq.val (Runs.move rfl rfl) rfl rfl rfl ?_
    refine Seq.val (Runs.sliceN (s := 1) rfl rfl rfl Tryz.underlying22 (by kernel_rfl) rfl (by omega)) rfl rfl rfl ?_
    refine Seq.val (Runs.assign rfl rfl) rfl rfl rfl ?_
    refine Seq.val (Runs.assign rfl rfl) rfl rfl rfl ?_
    refine Seq.nil ?_
    refine Post.weak (F' := [(0, _), (1, _), (4, _), (5, _), (6, _), (7, _), (8, _), (9, _), (10, _), (12, _), (13, _), (23, _), (34, _), (47, _), (52, _)]) ⟨rfl, rfl, rfl, rfl, rfl, rfl, rfl, rfl, rfl, rfl, rfl, rfl, rfl, rfl, rfl, trivial⟩ ?_
    refine Post.then_ ?_
    refine Cd.ret ?_
    refine Post.block_ret ?_
    refine Post.then_ret ?_
    refine Post.end2 rfl rfl rfl (.inl rfl) ?_
    have hown := own.takeN k (by omega)
    rw [Nat.mul_one] at hown
    refine ⟨_, rfl, ?_, dk, df⟩
    have e1 : (L.take k).length = k := by rw [List.length_take]; omega
    have e2 : Ts (L.take k) = (Ts L).take k := by unfold Ts; rw [List.map_take]
    rw [e1, e2]
    exact hown
  have h : ¬ (sl = true) := by
    have h' : sl = false := h
    simp [h']
  rw [if_neg h]
  refine Cd.seq ?_
  refine Cd.region ?_
  refine Seq.val (Runs.move rfl rfl) rfl rfl rfl ?_
  refine Seq.val (Runs.len rfl rfl Tryz.underlying22) rfl rfl rfl ?_
  refine Seq.val (Runs.move rfl rfl) rfl rfl rfl ?_
  refine Seq.val (Runs.gtr rfl rfl rfl) rfl rfl rfl ?_
  refine Seq.val (Runs.move rfl rfl) rfl rfl rfl ?_
  refine SeqC.start ?_
  refine SeqC.open rfl rfl rfl rfl rfl rfl rfl (fun hcx => Runs.move rfl rfl) ?_
  refine SeqC.next rfl rfl rfl rfl rfl rfl rfl (fun hcx => Runs.move rfl rfl) ?_
  refine SeqC.next rfl rfl rfl rfl rfl rfl rfl (fun hcx => Runs.lenL rfl rfl Tryz.underlying9) ?_
  refine SeqC.next rfl rfl rfl rfl rfl rfl rfl (fun hcx => Runs.lss rfl rfl rfl) ?_
  refine SeqC.or rfl rfl rfl rfl rfl rfl rfl ?_
  refine Seq.val (Runs.assign rfl rfl) rfl rfl rfl ?_
  refine Seq.nil ?_
  refine Post.weak (F' := [(0, _), (1, _), (4, _), (5, _), (6, _), (7, _), (8, _), (9, _), (10, _), (12, _), (13, _), (23, _), (34, _), (47, _), (52, _), (57, _)]) ⟨rfl, rfl, rfl, rfl, rfl, rfl, rfl, rfl, rfl, rfl, rfl, rfl, rfl, rfl, rfl, rfl, trivial⟩ ?_
  refine Post.then_ ?_
  refine Cd.cond rfl (fun h => ?_) (fun h => ?_)
  · have h : k < L.length ∨ en < s.length := by
      have h' : (k : Int) < (L.length : Int) ∨ (en : Int) < (s.length : Int) := by simpa using h
      omega
    rw [if_pos h]
    refine Cd.seq ?_
    refine Cd.region ?_
    refine Seq.val (Runs.move rfl rfl) rfl rfl rfl ?_
    refine Seq.val (Runs.move rfl rfl) rfl rfl rfl ?_
    refine Seq.val (Runs.move rfl rfl) rfl rfl rfl ?_
    refine Seq.val (Runs.move rfl rfl) rfl rfl rfl ?_
    refine Seq.val (Runs.len rfl rfl Tryz.underlying22) rfl rfl rfl ?_
    refine Seq.call (Enters.func rfl rfl rfl (run_enter Tryz.func62 (by kernel_rfl) rfl)) rfl rfl rfl (again_any B g0 gd n L.length D nm num count size broken _ gv hgB k0 dk hn hnm hnl (by omega)) ?_
    clear dk
    rintro e w1 ⟨rfl, dk, fw1⟩
    refine ⟨_, rfl, ?_⟩
    replace df := df.df fw1
    replace k0 := k0.df fw1
    replace gv := gv.df fw1
    replace own := own.df fw1
    refine Seq.val (Runs.assign rfl rfl) rfl rfl rfl ?_
    refine Seq.val (Runs.assign rfl rfl) rfl rfl rfl ?_
    refine Seq.nil ?_
    refine Post.weak (F' := [(0, _), (1, _), (4, _), (5, _), (6, _), (7, _), (8, _), (9, _), (10, _), (12, _), (13, _), (23, _), (34, _), (47, _), (52, _), (57, _)]) ⟨rfl, rfl, rfl, rfl, rfl, rfl, rfl, rfl, rfl, rfl, rfl, rfl, rfl, rfl, rfl, rfl, trivial⟩ ?_
    refine Post.then_ ?_
    refine Cd.ret ?_
    refine Post.block_ret ?_
    refine Post.then_ret ?_
    refine Post.end2 rfl rfl rfl (.inl rfl) ?_
    exact ⟨_, rfl, own, dk, df⟩
  have h : ¬ (k < L.length ∨ en < s.length) := by
    have h' : ¬ ((k : Int) < (L.length : Int) ∨ (en : Int) < (s.length : Int)) := by simpa using h
    omega
  rw [if_neg h]
  refine Cd.skip ?_
  refine Post.block_normal ?_
  refine Post.then_ ?_
  refine Cd.seq ?_
  refine Cd.region ?_
  refine Seq.val (Runs.move rfl rfl) rfl rfl rfl ?_
  refine Seq.val (Runs.assign rfl rfl) rfl rfl rfl ?_
  refine Seq.val (Runs.assign rfl rfl) rfl rfl rfl ?_
  refine Seq.nil ?_
  refine Post.weak (F' := [(0, _), (1, _), (4, _), (5, _), (6, _), (7, _), (8, _), (9, _), (10, _), (12, _), (13, _), (23, _), (34, _), (47, _), (52, _), (57, _)]) ⟨rfl, rfl, rfl, rfl, rfl, rfl, rfl, rfl, rfl, rfl, rfl, rfl, rfl, rfl, rfl, rfl, trivial⟩ ?_
  refine Post.then_ ?_
  refine Cd.ret ?_
  refine Post.end2 rfl rfl rfl (.inl rfl) ?_
  exact ⟨_, rfl, own, dk, df⟩
end Go.Proofs.YtnlepoplncjliaaGreatDoor

namespace Go.Proofs.YtnlepoplncjliaaGreatDoor
open Go.RowKit

theorem zero_wal_Rec : zeroIs Tryz.prog 36 = some (some (.agg #[.int .i64 0, .string { data := #[] }])) := by kernel_rfl
theorem run_build_rec (a : Int) (s : List Nat) (w : World) : (Instr.build 36 #[(0, .int .i64 a), (1, .string (strOf s))]).run Tryz.prog w = .ok (.agg #[.int .i64 a, .string (strOf s)]) w := by
  have hu := Tryz.underlying36
  go_simp
theorem run_build_wal (gd : Nat) (nm : List Nat) (w : World) : (Instr.build 80 #[(0, .pointer (some ⟨gd, 0, none⟩)), (1, .string (strOf nm))]).run Tryz.prog w = .ok (.agg (wlCs gd nm 0 0 0 false)) w := by
  have hu := Tryz.underlying80
  unfold wlCs
  go_simp
/-- Records, laid flat. -/
def recV (r : Nat × List Nat) : List Value := [.int .i64 (r.1 : Int), .string (strOf r.2)]
def recsV (l : List (Nat × List Nat)) : List Value := l.flatMap recV
theorem recsV_app (a b : List (Nat × List Nat)) : recsV (a ++ b) = recsV a ++ recsV b := by simp [recsV]
theorem recsV_len (a : List (Nat × List Nat)) : (recsV a).length = a.length * 2 := by
  induction a with
  | nil => rfl
  | cons x a ih => simp only [recsV, List.flatMap_cons, List.length_append, List.length_cons] at ih ⊢; rw [ih]; simp [recV]; omega
theorem ones_recV (r : Nat × List Nat) : ∀ u ∈ recV r, u.oneCell' = true := fun u hu => by
  simp [recV] at hu
  rcases hu with rfl | rfl <;> rfl
/-- What Open answers. -/
def OpenR (w w' : World) (gd : Nat) (nm : List Nat) (v1 v2 : Value) (r : Dk × Int × List (Nat × List Nat) × Nat) : Prop :=
  (r.2.1 ≠ 0 ∧ v1 = .pointer none ∧ v2 = .slice none 0 0) ∨
  (r.2.1 = 0 ∧ ∃ g, v1 = .pointer (some ⟨g, 0, none⟩) ∧ w.heap.size ≤ g ∧ Blk w' g 80 (wlCs gd nm (r.2.2.2 : Int) 0 0 false) ∧ Own w' w.heap.size 36 2 v2 r.2.2.1.length (recsV r.2.2.1))
theorem segN_len {D : Dk} (h : D.ok) (nm : List Nat) (n : Nat) : (segN D nm n).2.2.length ≤ 100000 := by
  have h1 := (datN_ok h (fileN nm n logK)).2
  have h2 := allGo_len (D.datN (fileN nm n logK)).length (D.datN (fileN nm n logK))
  rw [show allGo (D.datN (fileN nm n logK)).length (D.datN (fileN nm n logK)) = allN (D.datN (fileN nm n logK)) from rfl] at h2
  unfold segN
  split
  · simp
  split
  · simp only [List.length_take]; omega
  split
  · simp only; omega
  · simp only; omega
set_option maxHeartbeats 4000000 in
theorem open_any (B gd : Nat) (D : Dk) (nm : List Nat) (w : World) (gv : Gv w) (hgB : 4 < B) (dk : DkAt w B gd D) (hoff : D.off = false) (hr : rightN nm = true) (hnm : Byt nm) (hown : ∀ p ∈ D.files, OwnNm nm p.1) :
    Calls Tryz.prog 13 #[.pointer (some ⟨gd, 0, none⟩), .string (strOf nm)] w fun e w' => ∃ v1 v2, e = .returned (.tuple #[v1, v2, .int .i64 (openW D nm).2.1]) ∧ OpenR w w' gd nm v1 v2 (openW D nm) ∧ DkAt w' B gd (openW D nm).1 ∧ Df B w w' := by
  have df := Df.refl B w
  have hnl : nm.length ≤ 8 := by
    unfold rightN at hr
    rw [Bool.and_eq_true, Bool.and_eq_true, decide_eq_true_eq, decide_eq_true_eq] at hr
    exact hr.2.2
  have hgw := tab_lt gv.pow
  obtain ⟨R, hR⟩ : ∃ R, R = openW D nm := ⟨_, rfl⟩
  rw [← hR]
  refine Calls.start 68 Tryz.func13 rfl rfl rfl ?_
  refine Cd.seq ?_
  refine Cd.region ?_
  refine Seq.val (Runs.assign rfl rfl) rfl rfl rfl ?_
  refine Seq.val (Runs.assign rfl rfl) rfl rfl rfl ?_
  refine Seq.val (Runs.assign rfl rfl) rfl rfl rfl ?_
  refine Seq.nil ?_
  refine Post.weak (F' := [(0, _), (1, _), (4, _), (5, _), (6, _)]) ⟨rfl, rfl, rfl, rfl, rfl, trivial⟩ ?_
  refine Post.then_ ?_
  refine Cd.seq ?_
  refine Cd.block ?_
  refine Cd.seq ?_
  refine Cd.region ?_
  refine Seq.val (Runs.move rfl rfl) rfl rfl rfl ?_
  refine Seq.val (Runs.eqlP rfl rfl rfl Tryz.underlying26) rfl rfl rfl ?_
  refine Seq.val (Runs.move rfl rfl) rfl rfl rfl ?_
  refine SeqC.start ?_
  refine SeqC.open rfl rfl rfl rfl rfl rfl rfl (fun hcx => Runs.move rfl rfl) ?_
  refine SeqC.nextC rfl rfl rfl rfl rfl rfl rfl (fun hcx => Enters.func rfl rfl rfl (run_enter Tryz.func35 (by kernel_rfl) rfl)) (fun hcx => right_w_any nm _ hnm (by omega)) ?_
  intro w1 hw1
  replace df := df.step hw1
  replace dk := dk.step hw1
  replace gv := gv.step hw1
  rw [hr]
  refine SeqC.next rfl rfl rfl rfl rfl rfl rfl (fun hcx => Runs.not rfl rfl) ?_
  refine SeqC.or rfl rfl rfl rfl rfl rfl rfl ?_
  refine Seq.val (Runs.assign rfl rfl) rfl rfl rfl ?_
  refine Seq.nil ?_
  refine Post.weak (F' := [(0, _), (1, _), (4, _), (5, _), (6, _), (15, _)]) ⟨rfl, rfl, rfl, rfl, rfl, rfl, trivial⟩ ?_
  refine Post.then_ ?_
  refine Cd.condF rfl rfl ?_
  refine Cd.seq ?_
  refine Cd.region ?_
  refine Seq.val (Runs.move rfl rfl) rfl rfl rfl ?_
  refine Seq.call (Enters.func rfl rfl rfl (run_enter Tryz.func36 (by kernel_rfl) rfl)) rfl rfl rfl (on_any B gd D _ dk) ?_
  rw [hoff]
  rintro e w5 ⟨rfl, hb5⟩
  refine ⟨_, rfl, ?_⟩
  replace df := df.step hb5
  replace dk := dk.step hb5
  replace gv := gv.step hb5
  refine Seq.val (Runs.not rfl rfl) rfl rfl rfl ?_
  refine Seq.val (Runs.assign rfl rfl) rfl rfl rfl ?_
  refine Seq.nil ?_
  refine Post.weak (F' := [(0, _), (1, _), (4, _), (5, _), (6, _), (15, _), (23, _)]) ⟨rfl, rfl, rfl, rfl, rfl, rfl, rfl, trivial⟩ ?_
  refine Post.then_ ?_
  refine Cd.condF rfl rfl ?_
  refine Cd.skip ?_
  refine Post.block_normal ?_
  refine Post.then_ ?_
  refine Cd.seq ?_
  refine Cd.region ?_
  refine Seq.val (Runs.move rfl rfl) rfl rfl rfl ?_
  refine Seq.val (Runs.move rfl rfl) rfl rfl rfl ?_
  have hsz5 := df.size
  refine Seq.val (Runs.build rfl rfl (run_build_wal gd nm _)) rfl rfl rfl ?_
  refine Seq.box rfl rfl rfl rfl rfl ?_
  intro g30 w2 n30
  replace df := df.step n30.below
  replace dk := dk.step n30.below
  replace gv := gv.step n30.below
  have k30 := n30.blk
  refine Seq.val (Runs.assign rfl rfl) rfl rfl rfl ?_
  refine Seq.nil ?_
  refine Post.weak (F' := [(0, _), (1, _), (4, _), (5, _), (6, _), (7, _), (15, _), (23, _)]) ⟨rfl, rfl, rfl, rfl, rfl, rfl, rfl, rfl, trivial⟩ ?_
  refine Post.then_ ?_
  refine Cd.seq ?_
  refine Cd.region ?_
  refine Seq.val (Runs.assign rfl rfl) rfl rfl rfl ?_
  refine Seq.nil ?_
  refine Post.weak (F' := [(0, _), (1, _), (4, _), (5, _), (6, _), (7, _), (8, _), (15, _), (23, _)]) ⟨rfl, rfl, rfl, rfl, rfl, rfl, rfl, rfl, rfl, trivial⟩ ?_
  refine Post.then_ ?_
  refine Cd.seq ?_
  refine Cd.seq ?_
  refine Cd.region ?_
  refine Seq.val (Runs.move rfl rfl) rfl rfl rfl ?_
  have k30 : Blk _ g30 80 (wlCs gd nm 0 0 0 false) := k30
  refine Seq.call (Enters.func rfl rfl rfl (run_enter Tryz.func37 (by kernel_rfl) rfl)) rfl rfl rfl (numbers_any B g30 gd D nm 0 0 0 false _ gv k30 dk hnm hnl hown) ?_
  rintro e w7 ⟨v32, ns, rfl, hinc, hmem, ownN, hb7⟩
  refine ⟨_, rfl, ?_⟩
  have hns : ns = numsL nm (D.files.map (·.1)) := inc_eq hinc numsL_inc (fun n => by rw [hmem, numsL_mem])
  clear hinc
  have hnsl := numsL_len (nm := nm) (names := D.files.map (·.1))
  have hRR : R = openGo nm ns D [] 0 := by rw [hR, hns]; rfl
  rw [← hns] at hnsl
  replace ownN := ownN.mono df.size
  replace df := df.step hb7
  replace dk := dk.step hb7
  replace gv := gv.step hb7
  replace k30 := k30.step hb7
  obtain ⟨A, c, rfl, -⟩ := ownN.reads
  refine Seq.val (Runs.len rfl rfl Tryz.underlying81) rfl rfl rfl ?_
  refine Seq.val (Runs.move rfl rfl) rfl rfl rfl ?_
  refine Seq.nil ?_
  refine Post.weak (F' := [(0, _), (1, _), (4, _), (5, _), (6, _), (7, _), (8, _), (15, _), (23, _), (32, _), (33, _), (34, _)]) ⟨rfl, rfl, rfl, rfl, rfl, rfl, rfl, rfl, rfl, rfl, rfl, rfl, trivial⟩ ?_
  refine Post.then_ ?_
  refine Cd.block ?_
  have own := Own.nil w7 w.heap.size 36 2
  have e30 : w.heap.size ≤ g30 := Nat.le_trans hsz5 n30.ge
  refine Cd.loop (σ := Nat × Dk × List (Nat × List Nat) × Nat × Value) (fun q => [(7, .pointer (some ⟨g30, 0, none⟩)), (8, q.2.2.2.2), (32, .slice A ns.length c), (33, .int .i64 (ns.length : Int)), (34, .int .i64 (q.1 : Int))]) (fun q wr => q.1 ≤ ns.length ∧ R = openGo nm (ns.drop q.1) q.2.1 q.2.2.1 q.2.2.2.1 ∧ q.2.1.off = false ∧ q.2.2.1.length ≤ 100000 * q.1 ∧ DkAt wr B gd q.2.1 ∧ Df B w wr ∧ Gv wr ∧ Blk wr g30 80 (wlCs gd nm (q.2.2.2.1 : Int) 0 0 false) ∧ Own wr w.heap.size 3 1 (.slice A ns.length c) ns.length (ns.map fun (n : Nat) => Value.int .i64 (n : Int)) ∧ Own wr w.heap.size 36 2 q.2.2.2.2 q.2.2.1.length (recsV q.2.2.1)) (fun q => ns.length - q.1) (0, D, [], 0, .slice none 0 0) ⟨Nat.zero_le _, hRR, hoff, Nat.le_refl _, dk, df, gv, k30, ownN, own⟩ ⟨rfl, rfl, rfl, rfl, rfl, trivial⟩ ?_
  clear dk df gv k30 ownN own hRR hoff
  rintro ⟨i, D', acc, num, v⟩ wr ⟨hi, hRR, hoff, hacc, dk, df, gv, k30, ownN, own⟩
  simp only at hi hRR hoff hacc dk k30 own
  show Cd _ _ _ _ [(7, .pointer (some ⟨g30, 0, none⟩)), (8, v), (32, .slice A ns.length c), (33, .int .i64 (ns.length : Int)), (34, .int .i64 (i : Int))] _
  refine Cd.seq ?_
  refine Cd.region ?_
  refine Seq.val (Runs.lss rfl rfl rfl) rfl rfl rfl ?_
  refine Seq.nil ?_
  refine Post.weak (F' := [(7, _), (8, _), (32, _), (33, _), (34, _), (35, _)]) ⟨rfl, rfl, rfl, rfl, rfl, rfl, trivial⟩ ?_
  refine Post.then_ ?_
  refine Cd.seq ?_
  refine Cd.condD rfl (fun hc => ?_) (fun hc => ?_)
  · obtain ⟨n, hn⟩ : ∃ n, ns[i]? = some n := ⟨_, List.getElem?_eq_getElem (by omega)⟩
    have hn6 : n ≤ 999999 := ((hmem n).1 (List.mem_of_getElem? hn)).1
    rw [drop_head hn, openGo] at hRR
    obtain ⟨A', c', hv, hrd⟩ := ownN.reads
    injection hv with e1 _ e2
    subst e1 e2
    obtain ⟨ad, rfl, -, hcl⟩ := hrd.2 (by omega)
    have hcd := hcl i (.int .i64 (n : Int)) (by rw [List.getElem?_map, hn]; rfl)
    clear hrd hcl
    refine Cd.skip ?_
    refine Post.then_ ?_
    refine Cd.seq ?_
    refine Cd.block ?_
    refine Cd.seq ?_
    refine Cd.region ?_
    refine Seq.val (Runs.index1 rfl rfl rfl Tryz.underlying81 (by kernel_rfl) (j := i) rfl (by omega)) rfl rfl rfl ?_
    refine Seq.val (Runs.load1 rfl rfl Tryz.underlying3 rfl hcd) rfl rfl rfl ?_
    refine Seq.val (Runs.assign rfl rfl) rfl rfl rfl ?_
    refine Seq.nil ?_
    refine Post.weak (F' := [(7, _), (8, _), (10, _), (32, _), (33, _), (34, _), (35, _)]) ⟨rfl, rfl, rfl, rfl, rfl, rfl, rfl, trivial⟩ ?_
    refine Post.then_ ?_
    refine Cd.seq ?_
    refine Cd.region ?_
    refine Seq.val (Runs.move rfl rfl) rfl rfl rfl ?_
    refine Seq.val (Runs.move rfl rfl) rfl rfl rfl ?_
    have hsz := df.size
    have hsl := segN_len dk.ok nm n
    refine Seq.call (Enters.func rfl rfl rfl (run_enter Tryz.func38 (by kernel_rfl) rfl)) rfl rfl rfl (segment_any B g30 gd n D' nm (num : Int) 0 0 false _ gv hgB k30 dk hoff hn6 hnm hnl) ?_
    clear dk
    rintro e w3 ⟨vs, rfl, ownS, dk, fw3⟩
    refine ⟨_, rfl, ?_⟩
    replace df := df.df fw3
    replace gv := gv.df fw3
    replace k30 := k30.df fw3
    replace ownN := ownN.df fw3
    replace own := own.df fw3
    have hoff' := segN_off (nm := nm) (n := n) hoff
    replace ownS := ownS.mono hsz
    obtain ⟨S, hS⟩ : ∃ S, S = segN D' nm n := ⟨_, rfl⟩
    rw [← hS] at hRR ownS dk hoff' hsl
    rw [← hS]
    clear hS
    obtain ⟨D2, e2, L⟩ := S
    simp only at hRR ownS dk hoff' hsl
    obtain ⟨AL, cL, rfl, -⟩ := ownS.reads
    refine Seq.val (Runs.move rfl rfl) rfl rfl rfl ?_
    refine Seq.val (Runs.extract rfl rfl rfl) rfl rfl rfl ?_
    refine Seq.val (Runs.extract rfl rfl rfl) rfl rfl rfl ?_
    refine Seq.val (Runs.assign rfl rfl) rfl rfl rfl ?_
    refine Seq.val (Runs.assign rfl rfl) rfl rfl rfl ?_
    refine Seq.nil ?_
    refine Post.weak (F' := [(7, _), (8, _), (10, _), (11, _), (12, _), (32, _), (33, _), (34, _), (35, _)]) ⟨rfl, rfl, rfl, rfl, rfl, rfl, rfl, rfl, rfl, trivial⟩ ?_
    refine Post.then_ ?_
    refine Cd.seq ?_
    refine Cd.seq ?_
    refine Cd.region ?_
    refine Seq.val (Runs.move rfl rfl) rfl rfl rfl ?_
    refine Seq.val (Runs.neqI rfl rfl rfl) rfl rfl rfl ?_
    refine Seq.nil ?_
    refine Post.weak (F' := [(7, _), (8, _), (10, _), (11, _), (12, _), (32, _), (33, _), (34, _), (35, _), (45, _)]) ⟨rfl, rfl, rfl, rfl, rfl, rfl, rfl, rfl, rfl, rfl, trivial⟩ ?_
    refine Post.then_ ?_
    refine Cd.cond rfl (fun h => ?_) (fun h => ?_)
    · have h : e2 ≠ 0 := by simpa using h
      rw [if_pos h] at hRR
      subst hRR
      refine Cd.seq ?_
      refine Cd.region ?_
      refine Seq.val (Runs.move rfl rfl) rfl rfl rfl ?_
      refine Seq.val (Runs.assign rfl rfl) rfl rfl rfl ?_
      refine Seq.val (Runs.assign rfl rfl) rfl rfl rfl ?_
      refine Seq.val (Runs.assign rfl rfl) rfl rfl rfl ?_
      refine Seq.nil ?_
      refine Post.weak (F' := [(4, _), (5, _), (6, _), (7, _), (8, _), (10, _), (11, _), (12, _), (32, _), (33, _), (34, _), (35, _), (45, _)]) ⟨rfl, rfl, rfl, rfl, rfl, rfl, rfl, rfl, rfl, rfl, rfl, rfl, rfl, trivial⟩ ?_
      refine Post.then_ ?_
      refine Cd.ret ?_
      refine Post.then_ret ?_
      refine Post.block_ret ?_
      refine Post.then_ret ?_
      refine Post.round_ret ?_
      refine Post.block_ret ?_
      refine Post.then_ret ?_
      refine Post.end3 rfl rfl rfl rfl (.inl rfl) ?_
      exact ⟨_, _, rfl, .inl ⟨h, rfl, rfl⟩, dk, df⟩
    have h : e2 = 0 := by simpa using h
    rw [if_neg (by omega)] at hRR
    have hoff2 := hoff' h
    clear hoff hoff'
    refine Cd.skip ?_
    refine Post.then_ ?_
    refine Cd.seq ?_
    refine Cd.seq ?_
    refine Cd.region ?_
    refine Seq.val (Runs.move rfl rfl) rfl rfl rfl ?_
    refine Seq.val (Runs.len rfl rfl Tryz.underlying22) rfl rfl rfl ?_
    refine Seq.val (Runs.move rfl rfl) rfl rfl rfl ?_
    refine Seq.nil ?_
    refine Post.weak (F' := [(7, _), (8, _), (10, _), (11, _), (12, _), (32, _), (33, _), (34, _), (35, _), (45, _), (47, _), (48, _), (49, _)]) ⟨rfl, rfl, rfl, rfl, rfl, rfl, rfl, rfl, rfl, rfl, rfl, rfl, rfl, trivial⟩ ?_
    refine Post.then_ ?_
    refine Cd.block ?_
    refine Cd.loop (σ := Nat × Value) (fun q => [(7, .pointer (some ⟨g30, 0, none⟩)), (8, q.2), (10, .int .i64 (n : Int)), (32, .slice (some ad) ns.length c), (33, .int .i64 (ns.length : Int)), (34, .int .i64 (i : Int)), (47, .slice AL L.length cL), (48, .int .i64 (L.length : Int)), (49, .int .i64 (q.1 : Int))]) (fun q wr => q.1 ≤ L.length ∧ DkAt wr B gd D2 ∧ Df B w wr ∧ Gv wr ∧ Blk wr g30 80 (wlCs gd nm (num : Int) 0 0 false) ∧ Own wr w.heap.size 3 1 (.slice (some ad) ns.length c) ns.length (ns.map fun (n : Nat) => Value.int .i64 (n : Int)) ∧ Own wr w.heap.size 9 1 (.slice AL L.length cL) L.length (Ts L) ∧ Own wr w.heap.size 36 2 q.2 (acc ++ (L.take q.1).map fun s => (n, s)).length (recsV (acc ++ (L.take q.1).map fun s => (n, s)))) (fun q => L.length - q.1) (0, v) ⟨Nat.zero_le _, dk, df, gv, k30, ownN, ownS, by simpa using own⟩ ⟨rfl, rfl, rfl, rfl, rfl, rfl, rfl, rfl, rfl, trivial⟩ ?_
    clear dk df gv k30 ownN ownS own
    rintro ⟨j, v'⟩ wr2 ⟨hj, dk, df, gv, k30, ownN, ownS, own⟩
    simp only at hj own
    obtain ⟨A8, c8, rfl, -⟩ := own.reads
    show Cd _ _ _ _ [(7, .pointer (some ⟨g30, 0, none⟩)), (8, .slice A8 (acc ++ (L.take j).map fun s => (n, s)).length c8), (10, .int .i64 (n : Int)), (32, .slice (some ad) ns.length c), (33, .int .i64 (ns.length : Int)), (34, .int .i64 (i : Int)), (47, .slice AL L.length cL), (48, .int .i64 (L.length : Int)), (49, .int .i64 (j : Int))] _
    have hal : (acc ++ (L.take j).map fun s => (n, s)).length = acc.length + j := by rw [List.length_append, List.length_map, List.length_take]; omega
    refine Cd.seq ?_
    refine Cd.region ?_
    refine Seq.val (Runs.lss rfl rfl rfl) rfl rfl rfl ?_
    refine Seq.nil ?_
    refine Post.weak (F' := [(7, _), (8, _), (10, _), (32, _), (33, _), (34, _), (47, _), (48, _), (49, _), (50, _)]) ⟨rfl, rfl, rfl, rfl, rfl, rfl, rfl, rfl, rfl, rfl, trivial⟩ ?_
    refine Post.then_ ?_
    refine Cd.seq ?_
    refine Cd.condD rfl (fun hc => ?_) (fun hc => ?_)
    · obtain ⟨s, hs⟩ : ∃ s, L[j]? = some s := ⟨_, List.getElem?_eq_getElem (by omega)⟩
      obtain ⟨A', c', hv, hrd⟩ := ownS.reads
      injection hv with e1 _ e2
      subst e1 e2
      obtain ⟨ad2, rfl, -, hcl⟩ := hrd.2 (by omega)
      have hcd := hcl j (.string (strOf s)) (by rw [get_Ts, hs]; rfl)
      clear hrd hcl
      have hnj : L.take (j + 1) = L.take j ++ [s] := take_last hs
      refine Cd.skip ?_
      refine Post.then_ ?_
      refine Cd.seq ?_
      refine Cd.block ?_
      refine Cd.seq ?_
      refine Cd.region ?_
      refine Seq.val (Runs.index1 rfl rfl rfl Tryz.underlying22 (by kernel_rfl) (j := j) rfl (by omega)) rfl rfl rfl ?_
      refine Seq.val (Runs.load1 rfl rfl Tryz.underlying9 rfl hcd) rfl rfl rfl ?_
      refine Seq.val (Runs.assign rfl rfl) rfl rfl rfl ?_
      refine Seq.nil ?_
      refine Post.weak (F' := [(7, _), (8, _), (10, _), (14, _), (32, _), (33, _), (34, _), (47, _), (48, _), (49, _), (50, _)]) ⟨rfl, rfl, rfl, rfl, rfl, rfl, rfl, rfl, rfl, rfl, rfl, trivial⟩ ?_
      refine Post.then_ ?_
      refine Cd.region ?_
      refine Seq.val (Runs.move rfl rfl) rfl rfl rfl ?_
      refine Seq.val (Runs.move rfl rfl) rfl rfl rfl ?_
      refine Seq.val (Runs.move rfl rfl) rfl rfl rfl ?_
      refine Seq.val (Runs.build rfl rfl (run_build_rec (n : Int) s _)) rfl rfl rfl ?_
      refine Seq.slice (vs := [_]) (s := 2) rfl rfl rfl Tryz.underlying29 (by kernel_rfl) (zero_wal_Rec) (by omega) (by omega) ⟨rfl, trivial⟩ rfl rfl rfl ?_
      intro g57 w4 n57
      have l57 := Nat.lt_of_lt_of_le k30.lt n57.ge
      replace df := df.step n57.below
      replace dk := dk.step n57.below
      replace gv := gv.step n57.below
      replace ownN := ownN.step n57.below
      replace own := own.step n57.below
      replace ownS := ownS.step n57.below
      replace k30 := k30.step n57.below
      have k57 := n57.blk
      have hrx := Reads.blk (size := 2) k57 1 rfl
      refine Seq.append rfl rfl rfl Tryz.underlying29 (by kernel_rfl) zero_wal_Rec rfl (by decide) (b := 24) (by kernel_rfl) own hrx (ones_recV (n, s)) df.size (by simp only [maxLen]; omega) (by omega) rfl rfl rfl ?_
      intro v2 wb own2 ha
      replace dk := dk.app own ha
      replace df := df.app own ha (Nat.le_refl _)
      replace k30 := k30.appNe own ha
      replace gv := gv.below ha.below hgw
      replace ownN := ownN.appNe own ha
      replace ownS := ownS.appNe own ha
      replace own2 : Own wb w.heap.size 36 2 v2 ((acc ++ (L.take j).map fun s => (n, s)).length + 1) (recsV (acc ++ (L.take j).map fun s => (n, s)) ++ recsV [(n, s)]) := own2
      rw [← recsV_app, List.append_assoc, ← List.map_singleton (f := fun s => (n, s)), ← List.map_append, ← hnj] at own2
      clear own k57 hrx ha
      refine Seq.val (Runs.assign rfl rfl) rfl rfl rfl ?_
      refine Seq.nil ?_
      refine Post.weak (F' := [(7, _), (8, _), (10, _), (14, _), (32, _), (33, _), (34, _), (47, _), (48, _), (49, _), (50, _)]) ⟨rfl, rfl, rfl, rfl, rfl, rfl, rfl, rfl, rfl, rfl, rfl, trivial⟩ ?_
      refine Post.block_normal ?_
      refine Post.then_ ?_
      refine Cd.region ?_
      refine Seq.val (Runs.addI rfl rfl rfl (by omega) (by omega)) rfl rfl rfl ?_
      refine Seq.val (Runs.move rfl rfl) rfl rfl rfl ?_
      refine Seq.nil ?_
      refine Post.weak (F' := [(7, _), (8, _), (10, _), (14, _), (32, _), (33, _), (34, _), (47, _), (48, _), (49, _), (50, _)]) ⟨rfl, rfl, rfl, rfl, rfl, rfl, rfl, rfl, rfl, rfl, rfl, trivial⟩ ?_
      refine Post.round (j + 1, v2) ⟨rfl, rfl, rfl, rfl, rfl, rfl, rfl, rfl, int_at (by omega), trivial⟩ ⟨by simp only; omega, dk, df, gv, k30, ownN, ownS, ?_⟩ (by simp only; omega)
      simp only
      have hl2 : (acc ++ (L.take (j + 1)).map fun s => (n, s)).length = (acc ++ (L.take j).map fun s => (n, s)).length + 1 := by rw [hal, List.length_append, List.length_map, List.length_take]; omega
      rw [hl2]
      exact own2
    · obtain rfl : j = L.length := by omega
      rw [List.take_length] at own hal
      rw [List.take_length]
      refine Cd.exit ?_
      refine Post.then_exit ?_
      refine Post.round_exit ?_
      refine Post.block_exit ?_
      refine Post.then_ ?_
      refine Cd.region ?_
      refine Seq.val (Runs.move rfl rfl) rfl rfl rfl ?_
      refine Seq.val (Runs.move rfl rfl) rfl rfl rfl ?_
      refine Seq.val (Runs.addI rfl rfl rfl (by omega) (by omega)) rfl rfl rfl ?_
      refine Seq.val (Runs.nilCheck rfl rfl) rfl rfl rfl ?_
      refine Seq.val (Runs.fieldB 2 rfl rfl Tryz.underlying80 rfl (by kernel_rfl)) rfl rfl rfl ?_
      refine Seq.store1 rfl rfl rfl (by kernel_rfl) rfl rfl k30 rfl rfl rfl ?_
      intro w4 pw4
      replace df := df.put k30 pw4 e30
      replace dk := dk.put k30 pw4 e30
      replace gv := gv.put k30 pw4 e30
      replace ownN := ownN.put k30 pw4 e30
      replace own := own.put k30 pw4 e30
      replace ownS := ownS.put k30 pw4 e30
      replace k30 := pw4.blk
      refine Seq.nil ?_
      refine Post.weak (F' := [(7, _), (8, _), (10, _), (32, _), (33, _), (34, _), (47, _), (48, _), (49, _), (50, _)]) ⟨rfl, rfl, rfl, rfl, rfl, rfl, rfl, rfl, rfl, rfl, trivial⟩ ?_
      refine Post.block_normal ?_
      refine Post.then_ ?_
      refine Cd.region ?_
      refine Seq.val (Runs.addI rfl rfl rfl (by omega) (by omega)) rfl rfl rfl ?_
      refine Seq.val (Runs.move rfl rfl) rfl rfl rfl ?_
      refine Seq.nil ?_
      refine Post.weak (F' := [(7, _), (8, _), (10, _), (32, _), (33, _), (34, _), (47, _), (48, _), (49, _), (50, _)]) ⟨rfl, rfl, rfl, rfl, rfl, rfl, rfl, rfl, rfl, rfl, trivial⟩ ?_
      replace k30 : Blk _ g30 80 (wlCs gd nm ((n + 1 : Nat) : Int) 0 0 false) := k30
      exact Post.round (i + 1, D2, acc ++ L.map (fun s => (n, s)), n + 1, .slice A8 (acc ++ L.map fun s => (n, s)).length c8) ⟨rfl, rfl, rfl, rfl, int_at (by omega), trivial⟩ ⟨by simp only; omega, hRR, hoff2, by simp only; omega, dk, df, gv, k30, ownN, own⟩ (by simp only; omega)
  · obtain rfl : i = ns.length := by omega
    rw [List.drop_length, openGo] at hRR
    subst hRR
    refine Cd.exit ?_
    refine Post.then_exit ?_
    refine Post.round_exit ?_
    refine Post.block_exit ?_
    refine Post.then_ ?_
    refine Cd.seq ?_
    refine Cd.region ?_
    refine Seq.val (Runs.move rfl rfl) rfl rfl rfl ?_
    refine Seq.val (Runs.move rfl rfl) rfl rfl rfl ?_
    refine Seq.val (Runs.assign rfl rfl) rfl rfl rfl ?_
    refine Seq.val (Runs.assign rfl rfl) rfl rfl rfl ?_
    refine Seq.val (Runs.assign rfl rfl) rfl rfl rfl ?_
    refine Seq.nil ?_
    refine Post.weak (F' := [(4, _), (5, _), (6, _), (7, _), (8, _), (32, _), (33, _), (34, _), (35, _)]) ⟨rfl, rfl, rfl, rfl, rfl, rfl, rfl, rfl, rfl, trivial⟩ ?_
    refine Post.then_ ?_
    refine Cd.ret ?_
    refine Post.end3 rfl rfl rfl rfl (.inl rfl) ?_
    exact ⟨_, _, rfl, .inr ⟨rfl, g30, rfl, e30, k30, own⟩, dk, df⟩
end Go.Proofs.YtnlepoplncjliaaGreatDoor

namespace Go.Proofs.YtnlepoplncjliaaGreatDoor
open Go.RowKit

section
variable {P : Program} {ops : Array Oper} {Q : Exit → Act → World → Prop} {rest : List Oper} {o : Oper} {n d : Nat} {F : List (Nat × Value)} {C : Cxs} {w w' : World} {v : Value} {c : Bool} {H : List (Nat × Value)}
/-- A call under the same guard, of whose value only something is known. -/
theorem SeqC.nextCE {f : FuncId} {args : Array Value} {j t : Nat} {b want : Bool} {c0 : Bool} {Φ : Value → World → Prop} (hg : o.guard = some (j, want)) (ht : (ops[j]?).bind (·.dst) = some t) (hb : look (match C with | [] => F | (_, H) :: _ => H) t = some (.bool b)) (hc0 : c0 = (topX C && (b == want))) (hd : o.dst = some d) (hn : Nat.blt d n = true) (hf : freeX d ((c0, H) :: C) F = true)
    (hrun : c0 = true → Enters P (evF (allX ((c0, H) :: C) F)) o w f args) (hcall : c0 = true → Calls P f args w fun e w' => ∃ v, e = .returned v ∧ Φ v w' ∧ Grow w w') (h : ∀ v w', (c0 = true → Φ v w') → Grow w w' → SeqC P ops Q rest n ((c0, (d, v) :: H) :: C) F w') : SeqC P ops Q (o :: rest) n ((c0, H) :: C) F w := by
  intro a ha hC
  obtain ⟨h1, h2, h3, h4⟩ := id hC
  refine wpList_step fun K hK => ?_
  have hwant : Region.wanted o (yielded ops a.tmps) = c0 := by
    rw [hc0]
    have hy : yielded ops a.tmps j = if topX C = true then some b else none := by
      unfold yielded
      simp only [ht, Option.bind_some]
      cases C with
      | nil => simp [topX, ha.slot t _ hb]
      | cons x r =>
        obtain ⟨c1, H1⟩ := x
        obtain ⟨g1, g2, g3, g4⟩ := h4
        cases c1
        · simp [topX, g3 rfl t _ hb, undef]
        · simp [topX, g2 rfl t _ hb]
    unfold Region.wanted
    simp only [hg, hy]
    cases topX C <;> cases b <;> cases want <;> rfl
  rw [hwant]
  have hbase := freeX_base hf
  have hne : ∀ t u, look H t = some u → d ≠ t := fun t u ht e => by
    subst e
    simp only [freeX, Bool.and_eq_true] at hf
    rw [ht] at hf; simp at hf
  have hf2 : freeX d C F = true := by simp only [freeX, Bool.and_eq_true] at hf; exact hf.2
  cases hc : c0 with
  | true =>
    rw [if_pos rfl]
    unfold Oper.wp
    rw [hrun hc a.eval (HoldX.fr ha hC hc).ev, Oper.upon_enter, hd]
    refine (hcall hc).mono fun e w' ⟨v, he', hΦ, hgr⟩ => ?_
    subst he'
    refine hK _ _ (h v _ (fun _ => hΦ) hgr _ (ha.keep hbase) ⟨h1, fun _ t' u hu => ?_, fun e => (by rw [hc] at e; cases e), h4.put hf2⟩)
    rcases look_put hu with ⟨rfl, rfl⟩ | ⟨-, hu⟩
    · simp [Act.put, ha.size, Nat.blt_eq.mp hn]
    · simp only [Act.put]; rw [Array.getElem?_setIfInBounds_ne (hne t' u hu)]; exact h2 hc t' u hu
  | false =>
    rw [if_neg (by simp), hd]
    refine hK _ _ (h undef _ (fun e => by rw [hc] at e; cases e) (Grow.refl _) _ (ha.keep hbase) ⟨h1, fun e => (by rw [hc] at e; cases e), fun _ t' u hu => ?_, h4.put hf2⟩)
    rcases look_put hu with ⟨rfl, rfl⟩ | ⟨-, hu⟩
    · simp [Act.put, ha.size, Nat.blt_eq.mp hn]
    · simp only [Act.put]; rw [Array.getElem?_setIfInBounds_ne (hne t' u hu)]; exact h3 hc t' u hu
end
/-- Whether there is room for a frame. -/
def roomW (D : Dk) (num count len : Nat) : Bool := decide ((len : Int) + 24 ≤ D.room - D.used) && (!decide (count = 0) || decide (D.files.length + 2 ≤ 200)) && decide (num ≤ 999999)
/-- A frame laid, and marked. -/
def Dk.lay (D : Dk) (nm : List Nat) (num count : Nat) (s : List Nat) : Dk × Int :=
  if D.appendE (fileN nm num logK) s ≠ 0 then (D.append (fileN nm num logK) s, D.appendE (fileN nm num logK) s)
  else if (D.append (fileN nm num logK) s).thereE [fileN nm num logK] (fileN nm num logK) ≠ 0 then ((D.append (fileN nm num logK) s).sync (fileN nm num logK), (D.append (fileN nm num logK) s).thereE [fileN nm num logK] (fileN nm num logK))
  else ((D.append (fileN nm num logK) s).sync (fileN nm num logK)).note (fileN nm num ackK) (count + 1)
/-- A log under way. -/
structure Wl where
  num : Nat
  count : Nat
  size : Nat
  broken : Bool
def Wl.cs (W : Wl) (gd : Nat) (nm : List Nat) : Array Value := wlCs gd nm (W.num : Int) (W.count : Int) (W.size : Int) W.broken
def Wl.rotate (W : Wl) : Wl := if 0 < W.count then ⟨W.num + 1, 0, 0, W.broken⟩ else W
def Wl.least (W : Wl) (n : Int) : Wl := if (W.num : Int) < n then ⟨n.toNat, 0, 0, W.broken⟩ else W
/-- Behind a rotation, where the segment is full. -/
def Wl.turned (W : Wl) (data : List Nat) : Wl := if 1048576 - (W.size : Int) < ((data.length + 12 : Nat) : Int) then W.rotate else W
/-- A record behind the others. -/
def appW (W : Wl) (D : Dk) (nm data : List Nat) : Wl × Dk × Int :=
  if 131072 < data.length then (W, D, 4)
  else if W.broken = true then (W, D, 6)
  else if roomW D (W.turned data).num (W.turned data).count (data.length + 12) = false then (W.turned data, D, 5)
  else if (D.lay nm (W.turned data).num (W.turned data).count (frameN data)).2 ≠ 0 then ({ W.turned data with broken := true }, (D.lay nm (W.turned data).num (W.turned data).count (frameN data)).1, (D.lay nm (W.turned data).num (W.turned data).count (frameN data)).2)
  else (⟨(W.turned data).num, (W.turned data).count + 1, (W.turned data).size + (data.length + 12), (W.turned data).broken⟩, (D.lay nm (W.turned data).num (W.turned data).count (frameN data)).1, 0)
theorem room_any (B g0 gd : Nat) (D : Dk) (nm s : List Nat) (W : Wl) (w : World) (k0 : Blk w g0 80 (W.cs gd nm)) (dk : DkAt w B gd D) (hs : s.length ≤ 1000000) :
    Calls Tryz.prog 40 #[.pointer (some ⟨g0, 0, none⟩), .string (strOf s)] w fun e w' => e = .returned (.bool (roomW D W.num W.count s.length)) ∧ Grow w w' := by
  have bel := Below.refl w.heap.size w
  have hok := dk.ok
  have hlen := hok.most
  unfold Wl.cs at k0
  refine Calls.start 41 Tryz.func40 rfl rfl rfl ?_
  refine Cd.seq ?_
  refine Cd.region ?_
  refine Seq.val (Runs.assign rfl rfl) rfl rfl rfl ?_
  refine Seq.nil ?_
  refine Post.weak (F' := [(0, _), (1, _), (4, _)]) ⟨rfl, rfl, rfl, trivial⟩ ?_
  refine Post.then_ ?_
  refine Cd.seq ?_
  refine Cd.region ?_
  refine Seq.val (Runs.move rfl rfl) rfl rfl rfl ?_
  refine Seq.val (Runs.nilCheck rfl rfl) rfl rfl rfl ?_
  refine Seq.val (Runs.fieldB 3 rfl rfl Tryz.underlying80 rfl (by kernel_rfl)) rfl rfl rfl ?_
  refine Seq.val (Runs.loadB rfl rfl Tryz.underlying3 rfl k0 rfl) rfl rfl rfl ?_
  refine Seq.val (Runs.eqlI rfl rfl rfl) rfl rfl rfl ?_
  refine Seq.val (Runs.assign rfl rfl) rfl rfl rfl ?_
  refine Seq.nil ?_
  refine Post.weak (F' := [(0, _), (1, _), (4, _), (5, _)]) ⟨rfl, rfl, rfl, rfl, trivial⟩ ?_
  refine Post.then_ ?_
  refine Cd.seq ?_
  refine Cd.region ?_
  refine Seq.val (Runs.move rfl rfl) rfl rfl rfl ?_
  refine Seq.val (Runs.lenL rfl rfl Tryz.underlying9) rfl rfl rfl ?_
  refine Seq.val (Runs.addI rfl rfl rfl (by omega) (by omega)) rfl rfl rfl ?_
  refine Seq.val (Runs.move rfl rfl) rfl rfl rfl ?_
  refine Seq.val (Runs.nilCheck rfl rfl) rfl rfl rfl ?_
  refine Seq.val (Runs.fieldB 0 rfl rfl Tryz.underlying80 rfl (by kernel_rfl)) rfl rfl rfl ?_
  refine Seq.val (Runs.loadB rfl rfl Tryz.underlying26 rfl k0 rfl) rfl rfl rfl ?_
  refine Seq.call (Enters.func rfl rfl rfl (run_enter Tryz.func14 (by kernel_rfl) rfl)) rfl rfl rfl (free_any B gd D _ dk) ?_
  rintro e w5 ⟨rfl, hb5⟩
  refine ⟨_, rfl, ?_⟩
  replace bel := bel.step hb5
  replace k0 := k0.step hb5
  replace dk := dk.step hb5
  refine Seq.val (Runs.leq rfl rfl rfl) rfl rfl rfl ?_
  refine Seq.val (Runs.move rfl rfl) rfl rfl rfl ?_
  refine SeqC.start ?_
  refine SeqC.open rfl rfl rfl rfl rfl rfl rfl (fun hcx => Runs.move rfl rfl) ?_
  refine SeqC.next rfl rfl rfl rfl rfl rfl rfl (fun hcx => Runs.not rfl rfl) ?_
  refine SeqC.next rfl rfl rfl rfl rfl rfl rfl (fun hcx => Runs.move rfl rfl) ?_
  refine SeqC.open rfl rfl rfl rfl rfl rfl rfl (fun hcx => Runs.move rfl rfl) ?_
  refine SeqC.next rfl rfl rfl rfl rfl rfl rfl (fun hcx => Runs.nilCheck rfl rfl) ?_
  refine SeqC.next rfl rfl rfl rfl rfl rfl rfl (fun hcx => Runs.fieldB 0 rfl rfl Tryz.underlying80 rfl (by kernel_rfl)) ?_
  refine SeqC.next rfl rfl rfl rfl rfl rfl rfl (fun hcx => Runs.loadB rfl rfl Tryz.underlying26 rfl k0 rfl) ?_
  refine SeqC.nextCE (Φ := fun v _ => ∃ A c, v = .slice A D.files.length c) rfl rfl rfl rfl rfl rfl rfl (fun hcx => Enters.func rfl rfl rfl (run_enter Tryz.func31 (by kernel_rfl) rfl)) (fun hcx => (names_any B gd D _ dk).mono ?_) ?_
  · rintro e w' ⟨v, rfl, own, hb⟩
    obtain ⟨A, c, rfl, -⟩ := own.reads
    exact ⟨_, rfl, ⟨A, c, rfl⟩, hb⟩
  intro v28 w28 hv28 hb28
  replace bel := bel.step hb28
  replace k0 := k0.step hb28
  replace dk := dk.step hb28
  refine SeqC.next rfl rfl rfl rfl rfl rfl rfl (fun hcx => (by obtain ⟨A, c, rfl⟩ := hv28 hcx; exact Runs.len rfl rfl Tryz.underlying22)) ?_
  refine SeqC.next rfl rfl rfl rfl rfl rfl rfl (fun hcx => Runs.addI rfl rfl rfl (by omega) (by omega)) ?_
  refine SeqC.next rfl rfl rfl rfl rfl rfl rfl (fun hcx => Runs.leq rfl rfl rfl) ?_
  refine SeqC.orG rfl rfl rfl rfl rfl rfl rfl rfl rfl rfl rfl ?_
  refine SeqC.and rfl rfl rfl rfl rfl rfl rfl ?_
  refine Seq.val (Runs.move rfl rfl) rfl rfl rfl ?_
  refine SeqC.start ?_
  refine SeqC.open rfl rfl rfl rfl rfl rfl rfl (fun hcx => Runs.move rfl rfl) ?_
  refine SeqC.next rfl rfl rfl rfl rfl rfl rfl (fun hcx => Runs.nilCheck rfl rfl) ?_
  refine SeqC.next rfl rfl rfl rfl rfl rfl rfl (fun hcx => Runs.fieldB 2 rfl rfl Tryz.underlying80 rfl (by kernel_rfl)) ?_
  refine SeqC.next rfl rfl rfl rfl rfl rfl rfl (fun hcx => Runs.loadB rfl rfl Tryz.underlying3 rfl k0 rfl) ?_
  refine SeqC.next rfl rfl rfl rfl rfl rfl rfl (fun hcx => Runs.leq rfl rfl rfl) ?_
  refine SeqC.and rfl rfl rfl rfl rfl rfl rfl ?_
  refine Seq.val (Runs.assign rfl rfl) rfl rfl rfl ?_
  refine Seq.nil ?_
  refine Post.weak (F' := [(0, _), (1, _), (4, _), (5, _)]) ⟨rfl, rfl, rfl, rfl, trivial⟩ ?_
  refine Post.then_ ?_
  refine Cd.ret ?_
  refine Post.end1 rfl rfl (.inl rfl) ?_
  refine ⟨?_, bel⟩
  have e1 : decide ((W.count : Int) = 0) = decide (W.count = 0) := decide_eq_decide.2 (by omega)
  have e2 : decide ((D.files.length : Int) + 2 ≤ 200) = decide (D.files.length + 2 ≤ 200) := decide_eq_decide.2 (by omega)
  have e3 : decide ((W.num : Int) ≤ 999999) = decide (W.num ≤ 999999) := decide_eq_decide.2 (by omega)
  unfold roomW
  rw [← e1, ← e2, ← e3]
theorem lay_any (B g0 gd : Nat) (D : Dk) (nm s : List Nat) (W : Wl) (w : World) (gv : Gv w) (hgB : 4 < B) (k0 : Blk w g0 80 (W.cs gd nm)) (dk : DkAt w B gd D) (hnm : Byt nm) (hnl : nm.length ≤ 8) (hn : W.num ≤ 999999) (hc : W.count ≤ 1000000) (hs : Byt s) (hsl : s.length ≤ 1000000) :
    Calls Tryz.prog 41 #[.pointer (some ⟨g0, 0, none⟩), .string (strOf s)] w fun e w' => e = .returned (.int .i64 (D.lay nm W.num W.count s).2) ∧ DkAt w' B gd (D.lay nm W.num W.count s).1 ∧ Df B w w' := by
  have df := Df.refl B w
  obtain ⟨num, count, size, broken⟩ := W
  simp only at hn hc
  unfold Wl.cs at k0
  simp only at k0 ⊢
  have hlb := fileN_byt num hnm logK_byt
  have hll : (fileN nm num logK).length ≤ 1000 := by rw [fileN_len hn]; show nm.length + 7 + 4 ≤ _; omega
  unfold Dk.lay
  refine Calls.start 44 Tryz.func41 rfl rfl rfl ?_
  refine Cd.seq ?_
  refine Cd.region ?_
  refine Seq.val (Runs.assign rfl rfl) rfl rfl rfl ?_
  refine Seq.nil ?_
  refine Post.weak (F' := [(0, _), (1, _), (4, _)]) ⟨rfl, rfl, rfl, trivial⟩ ?_
  refine Post.then_ ?_
  refine Cd.seq ?_
  refine Cd.region ?_
  refine Seq.val (Runs.move rfl rfl) rfl rfl rfl ?_
  refine Seq.val (Runs.move rfl rfl) rfl rfl rfl ?_
  refine Seq.val (Runs.nilCheck rfl rfl) rfl rfl rfl ?_
  refine Seq.val (Runs.fieldB 2 rfl rfl Tryz.underlying80 rfl (by kernel_rfl)) rfl rfl rfl ?_
  refine Seq.val (Runs.loadB rfl rfl Tryz.underlying3 rfl k0 rfl) rfl rfl rfl ?_
  refine Seq.call (Enters.func rfl rfl rfl (run_enter Tryz.func50 (by kernel_rfl) rfl)) rfl rfl rfl (file_any g0 gd num nm logK num count size broken _ gv k0 hn (by omega) (by decide)) ?_
  rintro e w5 ⟨rfl, hb5⟩
  refine ⟨_, rfl, ?_⟩
  replace df := df.step hb5
  replace dk := dk.step hb5
  replace k0 := k0.step hb5
  replace gv := gv.step hb5
  obtain ⟨lg, hlg⟩ : ∃ x, x = fileN nm num logK := ⟨_, rfl⟩
  rw [← hlg] at hlb hll
  rw [← hlg]
  refine Seq.val (Runs.assign rfl rfl) rfl rfl rfl ?_
  refine Seq.nil ?_
  refine Post.weak (F' := [(0, _), (1, _), (4, _), (5, _)]) ⟨rfl, rfl, rfl, rfl, trivial⟩ ?_
  refine Post.then_ ?_
  refine Cd.seq ?_
  refine Cd.seq ?_
  refine Cd.region ?_
  refine Seq.val (Runs.move rfl rfl) rfl rfl rfl ?_
  refine Seq.val (Runs.nilCheck rfl rfl) rfl rfl rfl ?_
  refine Seq.val (Runs.fieldB 0 rfl rfl Tryz.underlying80 rfl (by kernel_rfl)) rfl rfl rfl ?_
  refine Seq.val (Runs.loadB rfl rfl Tryz.underlying26 rfl k0 rfl) rfl rfl rfl ?_
  refine Seq.val (Runs.move rfl rfl) rfl rfl rfl ?_
  refine Seq.val (Runs.move rfl rfl) rfl rfl rfl ?_
  refine Seq.call (Enters.func rfl rfl rfl (run_enter Tryz.func17 (by kernel_rfl) rfl)) rfl rfl rfl (append_d_any B gd D lg s _ dk hlb hs (by omega) (by omega)) ?_
  clear dk
  rintro e w1 ⟨rfl, dk, fw1⟩
  refine ⟨_, rfl, ?_⟩
  replace df := df.df fw1
  replace k0 := k0.df fw1
  replace gv := gv.df fw1
  refine Seq.val (Runs.assign rfl rfl) rfl rfl rfl ?_
  refine Seq.nil ?_
  refine Post.weak (F' := [(0, _), (1, _), (4, _), (5, _), (6, _)]) ⟨rfl, rfl, rfl, rfl, rfl, trivial⟩ ?_
  refine Post.then_ ?_
  refine Cd.seq ?_
  refine Cd.region ?_
  refine Seq.val (Runs.move rfl rfl) rfl rfl rfl ?_
  refine Seq.val (Runs.neqI rfl rfl rfl) rfl rfl rfl ?_
  refine Seq.nil ?_
  refine Post.weak (F' := [(0, _), (1, _), (4, _), (5, _), (6, _), (22, _)]) ⟨rfl, rfl, rfl, rfl, rfl, rfl, trivial⟩ ?_
  refine Post.then_ ?_
  refine Cd.cond rfl (fun h => ?_) (fun h => ?_)
  · have h : D.appendE lg s ≠ 0 := by simpa using h
    rw [if_pos h]
    refine Cd.seq ?_
    refine Cd.region ?_
    refine Seq.val (Runs.move rfl rfl) rfl rfl rfl ?_
    refine Seq.val (Runs.assign rfl rfl) rfl rfl rfl ?_
    refine Seq.nil ?_
    refine Post.weak (F' := [(0, _), (1, _), (4, _), (5, _), (6, _), (22, _)]) ⟨rfl, rfl, rfl, rfl, rfl, rfl, trivial⟩ ?_
    refine Post.then_ ?_
    refine Cd.ret ?_
    refine Post.then_ret ?_
    refine Post.end1 rfl rfl (.inl rfl) ?_
    exact ⟨rfl, dk, df⟩
  have h : ¬ (D.appendE lg s ≠ 0) := by simpa using h
  rw [if_neg h]
  obtain ⟨D1, hD1⟩ : ∃ x, x = D.append lg s := ⟨_, rfl⟩
  rw [← hD1] at dk
  rw [← hD1]
  refine Cd.skip ?_
  refine Post.then_ ?_
  refine Cd.seq ?_
  refine Cd.seq ?_
  refine Cd.region ?_
  refine Seq.val (Runs.move rfl rfl) rfl rfl rfl ?_
  refine Seq.val (Runs.nilCheck rfl rfl) rfl rfl rfl ?_
  refine Seq.val (Runs.fieldB 0 rfl rfl Tryz.underlying80 rfl (by kernel_rfl)) rfl rfl rfl ?_
  refine Seq.val (Runs.loadB rfl rfl Tryz.underlying26 rfl k0 rfl) rfl rfl rfl ?_
  refine Seq.val (Runs.move rfl rfl) rfl rfl rfl ?_
  refine Seq.call (Enters.func rfl rfl rfl (run_enter Tryz.func27 (by kernel_rfl) rfl)) rfl rfl rfl (sync_any B gd D1 lg _ dk hlb (by omega)) ?_
  clear dk
  rintro e w2 ⟨rfl, dk, fw2⟩
  refine ⟨_, rfl, ?_⟩
  replace df := df.df fw2
  replace k0 := k0.df fw2
  replace gv := gv.df fw2
  refine Seq.val (Runs.assign rfl rfl) rfl rfl rfl ?_
  refine Seq.nil ?_
  refine Post.weak (F' := [(0, _), (1, _), (4, _), (5, _), (6, _), (7, _), (22, _)]) ⟨rfl, rfl, rfl, rfl, rfl, rfl, rfl, trivial⟩ ?_
  refine Post.then_ ?_
  refine Cd.seq ?_
  refine Cd.region ?_
  refine Seq.val (Runs.move rfl rfl) rfl rfl rfl ?_
  refine Seq.val (Runs.neqI rfl rfl rfl) rfl rfl rfl ?_
  refine Seq.nil ?_
  refine Post.weak (F' := [(0, _), (1, _), (4, _), (5, _), (6, _), (7, _), (22, _), (31, _)]) ⟨rfl, rfl, rfl, rfl, rfl, rfl, rfl, rfl, trivial⟩ ?_
  refine Post.then_ ?_
  refine Cd.cond rfl (fun h => ?_) (fun h => ?_)
  · have h : D1.thereE [lg] lg ≠ 0 := by simpa using h
    rw [if_pos h]
    refine Cd.seq ?_
    refine Cd.region ?_
    refine Seq.val (Runs.move rfl rfl) rfl rfl rfl ?_
    refine Seq.val (Runs.assign rfl rfl) rfl rfl rfl ?_
    refine Seq.nil ?_
    refine Post.weak (F' := [(0, _), (1, _), (4, _), (5, _), (6, _), (7, _), (22, _), (31, _)]) ⟨rfl, rfl, rfl, rfl, rfl, rfl, rfl, rfl, trivial⟩ ?_
    refine Post.then_ ?_
    refine Cd.ret ?_
    refine Post.then_ret ?_
    refine Post.end1 rfl rfl (.inl rfl) ?_
    exact ⟨rfl, dk, df⟩
  have h : ¬ (D1.thereE [lg] lg ≠ 0) := by simpa using h
  rw [if_neg h]
  refine Cd.skip ?_
  refine Post.then_ ?_
  refine Cd.seq ?_
  refine Cd.draw 10 (by kernel_rfl) [] (.inl rfl) rfl Grow Grow.refl (fun _ _ _ => Grow.trans) ?_
  intro w3 hw3 zw3
  replace df := df.step hw3
  replace dk := dk.step hw3
  replace k0 := k0.step hw3
  replace gv := gv.step hw3
  have zlt := k0.lt
  refine Dr.val Grow.refl rfl (fun w hG => Runs.move rfl rfl) rfl ?_
  refine Dr.val Grow.refl rfl (fun w hG => Runs.move rfl rfl) rfl ?_
  refine Dr.val Grow.refl rfl (fun w hG => Runs.nilCheck rfl rfl) rfl ?_
  refine Dr.val Grow.refl rfl (fun w hG => Runs.fieldB 2 rfl rfl Tryz.underlying80 rfl (by kernel_rfl)) rfl ?_
  refine Dr.val Grow.refl rfl (fun w hG => Runs.loadB rfl rfl Tryz.underlying3 rfl (k0.step hG) rfl) rfl ?_
  refine Dr.val Grow.refl rfl (fun w hG => Runs.move rfl rfl) rfl ?_
  refine Dr.val Grow.refl rfl (fun w hG => Runs.nilCheck rfl rfl) rfl ?_
  refine Dr.val Grow.refl rfl (fun w hG => Runs.fieldB 3 rfl rfl Tryz.underlying80 rfl (by kernel_rfl)) rfl ?_
  refine Dr.val Grow.refl rfl (fun w hG => Runs.loadB rfl rfl Tryz.underlying3 rfl (k0.step hG) rfl) rfl ?_
  refine Dr.val Grow.refl rfl (fun w hG => Runs.addI rfl rfl rfl (by omega) (by omega)) rfl ?_
  refine Dr.nil ?_
  refine FinX.done (F' := [(0, _), (1, _), (4, _), (5, _), (6, _), (7, _), (22, _), (31, _), (33, _), (37, _), (42, _)]) rfl ⟨rfl, rfl, rfl, rfl, rfl, rfl, rfl, rfl, rfl, rfl, rfl, trivial⟩ ?_
  intro w4 hw4 fw4
  replace df := df.step hw4
  replace dk := dk.step hw4
  replace k0 := k0.step hw4
  replace gv := gv.step hw4
  have e41 : (count : Int) + 1 = ((count + 1 : Nat) : Int) := by omega
  rw [e41]
  refine Seq.call (Enters.func rfl rfl rfl (run_enter Tryz.func67 (by kernel_rfl) rfl)) rfl rfl rfl (note_any B g0 gd num (count + 1) (D1.sync lg) nm num count size broken _ gv hgB k0 dk hn hnm hnl (by omega)) ?_
  clear dk
  rintro e w5 ⟨rfl, dk, fw5⟩
  refine ⟨_, rfl, ?_⟩
  replace df := df.df fw5
  replace k0 := k0.df fw5
  replace gv := gv.df fw5
  refine Seq.val (Runs.assign rfl rfl) rfl rfl rfl ?_
  refine Seq.nil ?_
  refine Post.weak (F' := [(0, _), (1, _), (4, _), (5, _), (6, _), (7, _), (22, _), (31, _)]) ⟨rfl, rfl, rfl, rfl, rfl, rfl, rfl, rfl, trivial⟩ ?_
  refine Post.then_ ?_
  refine Cd.ret ?_
  refine Post.end1 rfl rfl (.inl rfl) ?_
  exact ⟨rfl, dk, df⟩
end Go.Proofs.YtnlepoplncjliaaGreatDoor

namespace Go.Proofs.YtnlepoplncjliaaGreatDoor
open Go.RowKit

theorem number_any (g0 gd : Nat) (nm : List Nat) (W : Wl) (w : World) (k0 : Blk w g0 80 (W.cs gd nm)) :
    Calls Tryz.prog 20 #[.pointer (some ⟨g0, 0, none⟩)] w fun e w' => e = .returned (.int .i64 (W.num : Int)) ∧ Grow w w' := by
  have bel := Below.refl w.heap.size w
  unfold Wl.cs at k0
  refine Calls.start 9 Tryz.func20 rfl rfl rfl ?_
  refine Cd.seq ?_
  refine Cd.region ?_
  refine Seq.val (Runs.assign rfl rfl) rfl rfl rfl ?_
  refine Seq.nil ?_
  refine Post.weak (F' := [(0, _), (2, _)]) ⟨rfl, rfl, trivial⟩ ?_
  refine Post.then_ ?_
  refine Cd.seq ?_
  refine Cd.seq ?_
  refine Cd.region ?_
  refine Seq.val (Runs.move rfl rfl) rfl rfl rfl ?_
  refine Seq.val (Runs.eqlP rfl rfl rfl Tryz.underlying28) rfl rfl rfl ?_
  refine Seq.nil ?_
  refine Post.weak (F' := [(0, _), (2, _), (4, _)]) ⟨rfl, rfl, rfl, trivial⟩ ?_
  refine Post.then_ ?_
  refine Cd.condF rfl rfl ?_
  refine Cd.skip ?_
  refine Post.then_ ?_
  refine Cd.seq ?_
  refine Cd.region ?_
  refine Seq.val (Runs.move rfl rfl) rfl rfl rfl ?_
  refine Seq.val (Runs.nilCheck rfl rfl) rfl rfl rfl ?_
  refine Seq.val (Runs.fieldB 2 rfl rfl Tryz.underlying80 rfl (by kernel_rfl)) rfl rfl rfl ?_
  refine Seq.val (Runs.loadB rfl rfl Tryz.underlying3 rfl k0 rfl) rfl rfl rfl ?_
  refine Seq.val (Runs.assign rfl rfl) rfl rfl rfl ?_
  refine Seq.nil ?_
  refine Post.weak (F' := [(0, _), (2, _), (4, _)]) ⟨rfl, rfl, rfl, trivial⟩ ?_
  refine Post.then_ ?_
  refine Cd.ret ?_
  refine Post.end1 rfl rfl (.inl rfl) ?_
  exact ⟨rfl, bel⟩
theorem rotate_any (B g0 gd : Nat) (D : Dk) (nm : List Nat) (W : Wl) (w : World) (e0 : B ≤ g0) (hB : B ≤ w.heap.size) (k0 : Blk w g0 80 (W.cs gd nm)) (dk : DkAt w B gd D) (hn : W.num ≤ 1000000000) :
    Calls Tryz.prog 29 #[.pointer (some ⟨g0, 0, none⟩)] w fun e w' => e = .returned (.int .i64 (W.rotate.num : Int)) ∧ Blk w' g0 80 (W.rotate.cs gd nm) ∧ DkAt w' B gd D ∧ Lf B w w' := by
  have lf := Lf.refl B w
  obtain ⟨num, count, size, broken⟩ := W
  simp only at hn
  unfold Wl.cs at k0
  unfold Wl.rotate
  simp only at k0 ⊢
  refine Calls.start 28 Tryz.func29 rfl rfl rfl ?_
  refine Cd.seq ?_
  refine Cd.region ?_
  refine Seq.val (Runs.assign rfl rfl) rfl rfl rfl ?_
  refine Seq.nil ?_
  refine Post.weak (F' := [(0, _), (2, _)]) ⟨rfl, rfl, trivial⟩ ?_
  refine Post.then_ ?_
  refine Cd.seq ?_
  refine Cd.seq ?_
  refine Cd.region ?_
  refine Seq.val (Runs.move rfl rfl) rfl rfl rfl ?_
  refine Seq.val (Runs.eqlP rfl rfl rfl Tryz.underlying28) rfl rfl rfl ?_
  refine Seq.nil ?_
  refine Post.weak (F' := [(0, _), (2, _), (4, _)]) ⟨rfl, rfl, rfl, trivial⟩ ?_
  refine Post.then_ ?_
  refine Cd.condF rfl rfl ?_
  refine Cd.skip ?_
  refine Post.then_ ?_
  refine Cd.seq ?_
  refine Cd.seq ?_
  refine Cd.region ?_
  refine Seq.val (Runs.move rfl rfl) rfl rfl rfl ?_
  refine Seq.val (Runs.nilCheck rfl rfl) rfl rfl rfl ?_
  refine Seq.val (Runs.fieldB 3 rfl rfl Tryz.underlying80 rfl (by kernel_rfl)) rfl rfl rfl ?_
  refine Seq.val (Runs.loadB rfl rfl Tryz.underlying3 rfl k0 rfl) rfl rfl rfl ?_
  refine Seq.val (Runs.gtr rfl rfl rfl) rfl rfl rfl ?_
  refine Seq.nil ?_
  refine Post.weak (F' := [(0, _), (2, _), (4, _), (9, _)]) ⟨rfl, rfl, rfl, rfl, trivial⟩ ?_
  refine Post.then_ ?_
  refine Cd.cond rfl (fun h => ?_) (fun h => ?_)
  · have h : 0 < count := by
      have h' : (0 : Int) < (count : Int) := by simpa using h
      omega
    rw [if_pos h]
    refine Cd.region ?_
    refine Seq.val (Runs.move rfl rfl) rfl rfl rfl ?_
    refine Seq.val (Runs.move rfl rfl) rfl rfl rfl ?_
    refine Seq.val (Runs.move rfl rfl) rfl rfl rfl ?_
    refine Seq.val (Runs.move rfl rfl) rfl rfl rfl ?_
    refine Seq.val (Runs.nilCheck rfl rfl) rfl rfl rfl ?_
    refine Seq.val (Runs.fieldB 2 rfl rfl Tryz.underlying80 rfl (by kernel_rfl)) rfl rfl rfl ?_
    refine Seq.val (Runs.loadB rfl rfl Tryz.underlying3 rfl k0 rfl) rfl rfl rfl ?_
    refine Seq.val (Runs.addI rfl rfl rfl (by omega) (by omega)) rfl rfl rfl ?_
    refine Seq.val (Runs.nilCheck rfl rfl) rfl rfl rfl ?_
    refine Seq.val (Runs.fieldB 2 rfl rfl Tryz.underlying80 rfl (by kernel_rfl)) rfl rfl rfl ?_
    refine Seq.store1 rfl rfl rfl (by kernel_rfl) rfl rfl k0 rfl rfl rfl ?_
    intro w1 pw1
    replace lf := lf.put k0 pw1 e0
    replace dk := dk.put k0 pw1 e0
    replace k0 := pw1.blk
    refine Seq.val (Runs.nilCheck rfl rfl) rfl rfl rfl ?_
    refine Seq.val (Runs.fieldB 3 rfl rfl Tryz.underlying80 rfl (by kernel_rfl)) rfl rfl rfl ?_
    refine Seq.store1 rfl rfl rfl (by kernel_rfl) rfl rfl k0 rfl rfl rfl ?_
    intro w2 pw2
    replace lf := lf.put k0 pw2 e0
    replace dk := dk.put k0 pw2 e0
    replace k0 := pw2.blk
    refine Seq.val (Runs.nilCheck rfl rfl) rfl rfl rfl ?_
    refine Seq.val (Runs.fieldB 4 rfl rfl Tryz.underlying80 rfl (by kernel_rfl)) rfl rfl rfl ?_
    refine Seq.store1 rfl rfl rfl (by kernel_rfl) rfl rfl k0 rfl rfl rfl ?_
    intro w3 pw3
    replace lf := lf.put k0 pw3 e0
    replace dk := dk.put k0 pw3 e0
    replace k0 := pw3.blk
    refine Seq.nil ?_
    refine Post.weak (F' := [(0, _), (2, _), (4, _), (9, _)]) ⟨rfl, rfl, rfl, rfl, trivial⟩ ?_
    refine Post.then_ ?_
    refine Cd.seq ?_
    refine Cd.region ?_
    refine Seq.val (Runs.move rfl rfl) rfl rfl rfl ?_
    refine Seq.val (Runs.nilCheck rfl rfl) rfl rfl rfl ?_
    refine Seq.val (Runs.fieldB 2 rfl rfl Tryz.underlying80 rfl (by kernel_rfl)) rfl rfl rfl ?_
    refine Seq.val (Runs.loadB rfl rfl Tryz.underlying3 rfl k0 rfl) rfl rfl rfl ?_
    refine Seq.val (Runs.assign rfl rfl) rfl rfl rfl ?_
    refine Seq.nil ?_
    refine Post.weak (F' := [(0, _), (2, _), (4, _), (9, _)]) ⟨rfl, rfl, rfl, rfl, trivial⟩ ?_
    refine Post.then_ ?_
    refine Cd.ret ?_
    refine Post.end1 rfl rfl (.inl rfl) ?_
    exact ⟨rfl, k0, dk, lf⟩
  · have h : ¬ (0 < count) := by
      have h' : ¬ ((0 : Int) < (count : Int)) := by simpa using h
      omega
    rw [if_neg h]
    refine Cd.skip ?_
    refine Post.then_ ?_
    refine Cd.seq ?_
    refine Cd.region ?_
    refine Seq.val (Runs.move rfl rfl) rfl rfl rfl ?_
    refine Seq.val (Runs.nilCheck rfl rfl) rfl rfl rfl ?_
    refine Seq.val (Runs.fieldB 2 rfl rfl Tryz.underlying80 rfl (by kernel_rfl)) rfl rfl rfl ?_
    refine Seq.val (Runs.loadB rfl rfl Tryz.underlying3 rfl k0 rfl) rfl rfl rfl ?_
    refine Seq.val (Runs.assign rfl rfl) rfl rfl rfl ?_
    refine Seq.nil ?_
    refine Post.weak (F' := [(0, _), (2, _), (4, _), (9, _)]) ⟨rfl, rfl, rfl, rfl, trivial⟩ ?_
    refine Post.then_ ?_
    refine Cd.ret ?_
    refine Post.end1 rfl rfl (.inl rfl) ?_
    exact ⟨rfl, k0, dk, lf⟩
theorem least_any (B g0 gd : Nat) (D : Dk) (nm : List Nat) (n : Int) (W : Wl) (w : World) (e0 : B ≤ g0) (hB : B ≤ w.heap.size) (k0 : Blk w g0 80 (W.cs gd nm)) (dk : DkAt w B gd D) (hn : W.num ≤ 1000000000) :
    Calls Tryz.prog 30 #[.pointer (some ⟨g0, 0, none⟩), .int .i64 n] w fun e w' => e = .returned (.int .i64 ((W.least n).num : Int)) ∧ Blk w' g0 80 ((W.least n).cs gd nm) ∧ DkAt w' B gd D ∧ Lf B w w' := by
  have lf := Lf.refl B w
  obtain ⟨num, count, size, broken⟩ := W
  simp only at hn
  unfold Wl.cs at k0
  unfold Wl.least
  simp only at k0 ⊢
  refine Calls.start 27 Tryz.func30 rfl rfl rfl ?_
  refine Cd.seq ?_
  refine Cd.region ?_
  refine Seq.val (Runs.assign rfl rfl) rfl rfl rfl ?_
  refine Seq.nil ?_
  refine Post.weak (F' := [(0, _), (1, _), (4, _)]) ⟨rfl, rfl, rfl, trivial⟩ ?_
  refine Post.then_ ?_
  refine Cd.seq ?_
  refine Cd.seq ?_
  refine Cd.region ?_
  refine Seq.val (Runs.move rfl rfl) rfl rfl rfl ?_
  refine Seq.val (Runs.neqP rfl rfl rfl Tryz.underlying28) rfl rfl rfl ?_
  refine Seq.val (Runs.move rfl rfl) rfl rfl rfl ?_
  refine SeqC.start ?_
  refine SeqC.open rfl rfl rfl rfl rfl rfl rfl (fun hcx => Runs.move rfl rfl) ?_
  refine SeqC.next rfl rfl rfl rfl rfl rfl rfl (fun hcx => Runs.move rfl rfl) ?_
  refine SeqC.next rfl rfl rfl rfl rfl rfl rfl (fun hcx => Runs.nilCheck rfl rfl) ?_
  refine SeqC.next rfl rfl rfl rfl rfl rfl rfl (fun hcx => Runs.fieldB 2 rfl rfl Tryz.underlying80 rfl (by kernel_rfl)) ?_
  refine SeqC.next rfl rfl rfl rfl rfl rfl rfl (fun hcx => Runs.loadB rfl rfl Tryz.underlying3 rfl k0 rfl) ?_
  refine SeqC.next rfl rfl rfl rfl rfl rfl rfl (fun hcx => Runs.gtr rfl rfl rfl) ?_
  refine SeqC.and rfl rfl rfl rfl rfl rfl rfl ?_
  refine Seq.nil ?_
  refine Post.weak (F' := [(0, _), (1, _), (4, _), (14, _)]) ⟨rfl, rfl, rfl, rfl, trivial⟩ ?_
  refine Post.then_ ?_
  refine Cd.cond rfl (fun h => ?_) (fun h => ?_)
  · have h : (num : Int) < n := by simpa using h
    rw [if_pos h]
    obtain ⟨m, rfl⟩ : ∃ m : Nat, n = (m : Int) := ⟨n.toNat, by omega⟩
    rw [Int.toNat_natCast]
    refine Cd.region ?_
    refine Seq.val (Runs.move rfl rfl) rfl rfl rfl ?_
    refine Seq.val (Runs.move rfl rfl) rfl rfl rfl ?_
    refine Seq.val (Runs.move rfl rfl) rfl rfl rfl ?_
    refine Seq.val (Runs.move rfl rfl) rfl rfl rfl ?_
    refine Seq.val (Runs.nilCheck rfl rfl) rfl rfl rfl ?_
    refine Seq.val (Runs.fieldB 2 rfl rfl Tryz.underlying80 rfl (by kernel_rfl)) rfl rfl rfl ?_
    refine Seq.store1 rfl rfl rfl (by kernel_rfl) rfl rfl k0 rfl rfl rfl ?_
    intro w1 pw1
    replace lf := lf.put k0 pw1 e0
    replace dk := dk.put k0 pw1 e0
    replace k0 := pw1.blk
    refine Seq.val (Runs.nilCheck rfl rfl) rfl rfl rfl ?_
    refine Seq.val (Runs.fieldB 3 rfl rfl Tryz.underlying80 rfl (by kernel_rfl)) rfl rfl rfl ?_
    refine Seq.store1 rfl rfl rfl (by kernel_rfl) rfl rfl k0 rfl rfl rfl ?_
    intro w2 pw2
    replace lf := lf.put k0 pw2 e0
    replace dk := dk.put k0 pw2 e0
    replace k0 := pw2.blk
    refine Seq.val (Runs.nilCheck rfl rfl) rfl rfl rfl ?_
    refine Seq.val (Runs.fieldB 4 rfl rfl Tryz.underlying80 rfl (by kernel_rfl)) rfl rfl rfl ?_
    refine Seq.store1 rfl rfl rfl (by kernel_rfl) rfl rfl k0 rfl rfl rfl ?_
    intro w3 pw3
    replace lf := lf.put k0 pw3 e0
    replace dk := dk.put k0 pw3 e0
    replace k0 := pw3.blk
    refine Seq.nil ?_
    refine Post.weak (F' := [(0, _), (1, _), (4, _), (14, _)]) ⟨rfl, rfl, rfl, rfl, trivial⟩ ?_
    refine Post.then_ ?_
    refine Cd.seq ?_
    refine Cd.region ?_
    refine Seq.val (Runs.move rfl rfl) rfl rfl rfl ?_
    replace k0 : Blk _ g0 80 (Wl.cs ⟨m, 0, 0, broken⟩ gd nm) := k0
    refine Seq.call (Enters.func rfl rfl rfl (run_enter Tryz.func20 (by kernel_rfl) rfl)) rfl rfl rfl (number_any g0 gd nm ⟨m, 0, 0, broken⟩ _ k0) ?_
    rintro e w5 ⟨rfl, hb5⟩
    refine ⟨_, rfl, ?_⟩
    replace lf := lf.step hb5
    replace dk := dk.step hb5
    replace k0 := k0.step hb5
    refine Seq.val (Runs.assign rfl rfl) rfl rfl rfl ?_
    refine Seq.nil ?_
    refine Post.weak (F' := [(0, _), (1, _), (4, _), (14, _)]) ⟨rfl, rfl, rfl, rfl, trivial⟩ ?_
    refine Post.then_ ?_
    refine Cd.ret ?_
    refine Post.end1 rfl rfl (.inl rfl) ?_
    exact ⟨rfl, k0, dk, lf⟩
  · have h : ¬ ((num : Int) < n) := by simpa using h
    rw [if_neg h]
    refine Cd.skip ?_
    refine Post.then_ ?_
    refine Cd.seq ?_
    refine Cd.region ?_
    refine Seq.val (Runs.move rfl rfl) rfl rfl rfl ?_
    replace k0 : Blk _ g0 80 (Wl.cs ⟨num, count, size, broken⟩ gd nm) := k0
    refine Seq.call (Enters.func rfl rfl rfl (run_enter Tryz.func20 (by kernel_rfl) rfl)) rfl rfl rfl (number_any g0 gd nm ⟨num, count, size, broken⟩ _ k0) ?_
    rintro e w5 ⟨rfl, hb5⟩
    refine ⟨_, rfl, ?_⟩
    replace lf := lf.step hb5
    replace dk := dk.step hb5
    replace k0 := k0.step hb5
    refine Seq.val (Runs.assign rfl rfl) rfl rfl rfl ?_
    refine Seq.nil ?_
    refine Post.weak (F' := [(0, _), (1, _), (4, _), (14, _)]) ⟨rfl, rfl, rfl, rfl, trivial⟩ ?_
    refine Post.then_ ?_
    refine Cd.ret ?_
    refine Post.end1 rfl rfl (.inl rfl) ?_
    exact ⟨rfl, k0, dk, lf⟩
end Go.Proofs.YtnlepoplncjliaaGreatDoor

namespace Go.Proofs.YtnlepoplncjliaaGreatDoor
open Go.RowKit

theorem turned_le (W : Wl) (data : List Nat) : (W.turned data).count ≤ W.count ∧ (W.turned data).num ≤ W.num + 1 ∧ (W.turned data).size ≤ W.size ∧ (W.turned data).broken = W.broken := by
  unfold Wl.turned Wl.rotate
  split
  · split
    · exact ⟨Nat.zero_le _, Nat.le_refl _, Nat.zero_le _, rfl⟩
    · exact ⟨Nat.le_refl _, Nat.le_succ _, Nat.le_refl _, rfl⟩
  · exact ⟨Nat.le_refl _, Nat.le_succ _, Nat.le_refl _, rfl⟩
set_option maxHeartbeats 2000000 in
theorem append_w_any (B g0 gd : Nat) (D : Dk) (nm data : List Nat) (W : Wl) (w : World) (gv : Gv w) (hgB : 4 < B) (e0 : B ≤ g0) (k0 : Blk w g0 80 (W.cs gd nm)) (dk : DkAt w B gd D) (hnm : Byt nm) (hnl : nm.length ≤ 8) (hn : W.num ≤ 1000000) (hc : W.count ≤ 1000000) (hsz : W.size ≤ 1000000000) (hd : Byt data) (hdl : data.length ≤ 100000000) :
    Calls Tryz.prog 15 #[.pointer (some ⟨g0, 0, none⟩), .string (strOf data)] w fun e w' => e = .returned (.int .i64 (appW W D nm data).2.2) ∧ Blk w' g0 80 ((appW W D nm data).1.cs gd nm) ∧ DkAt w' B gd (appW W D nm data).2.1 ∧ Lf B w w' := by
  have lf := Lf.refl B w
  have hB := dk.size
  have hturn := turned_le W data
  unfold appW
  refine Calls.start 62 Tryz.func15 rfl rfl rfl ?_
  refine Cd.seq ?_
  refine Cd.region ?_
  refine Seq.val (Runs.assign rfl rfl) rfl rfl rfl ?_
  refine Seq.nil ?_
  refine Post.weak (F' := [(0, _), (1, _), (4, _)]) ⟨rfl, rfl, rfl, trivial⟩ ?_
  refine Post.then_ ?_
  refine Cd.seq ?_
  refine Cd.seq ?_
  refine Cd.region ?_
  refine Seq.val (Runs.move rfl rfl) rfl rfl rfl ?_
  refine Seq.val (Runs.eqlP rfl rfl rfl Tryz.underlying28) rfl rfl rfl ?_
  refine Seq.nil ?_
  refine Post.weak (F' := [(0, _), (1, _), (4, _), (9, _)]) ⟨rfl, rfl, rfl, rfl, trivial⟩ ?_
  refine Post.then_ ?_
  refine Cd.condF rfl rfl ?_
  refine Cd.skip ?_
  refine Post.then_ ?_
  refine Cd.seq ?_
  refine Cd.region ?_
  refine Seq.val (Runs.move rfl rfl) rfl rfl rfl ?_
  refine Seq.call (Enters.func rfl rfl rfl (run_enter Tryz.func39 (by kernel_rfl) rfl)) rfl rfl rfl (frame_any data _ gv.nib hd hdl) ?_
  rintro e w5 ⟨rfl, hb5⟩
  refine ⟨_, rfl, ?_⟩
  replace lf := lf.step hb5
  replace dk := dk.step hb5
  replace k0 := k0.step hb5
  replace gv := gv.step hb5
  refine Seq.val (Runs.move rfl rfl) rfl rfl rfl ?_
  refine Seq.val (Runs.extract rfl rfl rfl) rfl rfl rfl ?_
  refine Seq.val (Runs.extract rfl rfl rfl) rfl rfl rfl ?_
  refine Seq.val (Runs.assign rfl rfl) rfl rfl rfl ?_
  refine Seq.val (Runs.assign rfl rfl) rfl rfl rfl ?_
  refine Seq.nil ?_
  refine Post.weak (F' := [(0, _), (1, _), (4, _), (5, _), (6, _), (9, _)]) ⟨rfl, rfl, rfl, rfl, rfl, rfl, trivial⟩ ?_
  refine Post.then_ ?_
  refine Cd.seq ?_
  refine Cd.block ?_
  refine Cd.seq ?_
  refine Cd.region ?_
  refine Seq.val (Runs.move rfl rfl) rfl rfl rfl ?_
  refine Seq.val (Runs.not rfl rfl) rfl rfl rfl ?_
  refine Seq.val (Runs.assign rfl rfl) rfl rfl rfl ?_
  refine Seq.nil ?_
  refine Post.weak (F' := [(0, _), (1, _), (4, _), (5, _), (6, _), (9, _), (15, _)]) ⟨rfl, rfl, rfl, rfl, rfl, rfl, rfl, trivial⟩ ?_
  refine Post.then_ ?_
  refine Cd.cond rfl (fun h => ?_) (fun h => ?_)
  · have h : 131072 < data.length := by
      have h' : (!decide (data.length ≤ 131072)) = true := h
      rw [Bool.not_eq_true', decide_eq_false_iff_not] at h'
      omega
    rw [if_pos h]
    refine Cd.seq ?_
    refine Cd.region ?_
    refine Seq.val (Runs.assign rfl rfl) rfl rfl rfl ?_
    refine Seq.nil ?_
    refine Post.weak (F' := [(0, _), (1, _), (4, _), (5, _), (6, _), (9, _), (15, _)]) ⟨rfl, rfl, rfl, rfl, rfl, rfl, rfl, trivial⟩ ?_
    refine Post.then_ ?_
    refine Cd.ret ?_
    refine Post.block_ret ?_
    refine Post.then_ret ?_
    refine Post.end1 rfl rfl (.inl rfl) ?_
    exact ⟨rfl, k0, dk, lf⟩
  have hlen : data.length ≤ 131072 := by
    have h' : (!decide (data.length ≤ 131072)) = false := h
    rw [Bool.not_eq_false', decide_eq_true_eq] at h'
    exact h'
  rw [if_neg (by omega), if_pos hlen]
  obtain ⟨W0, hW0⟩ : ∃ x, x = W := ⟨_, rfl⟩
  have k0' := k0
  rw [← hW0] at k0'
  obtain ⟨num, count, size, broken⟩ := W0
  clear k0
  have k0 := k0'
  clear k0'
  unfold Wl.cs at k0
  simp only at k0
  have hbr : W.broken = broken := by rw [← hW0]
  refine Cd.seq ?_
  refine Cd.region ?_
  refine Seq.val (Runs.move rfl rfl) rfl rfl rfl ?_
  refine Seq.val (Runs.nilCheck rfl rfl) rfl rfl rfl ?_
  refine Seq.val (Runs.fieldB 5 rfl rfl Tryz.underlying80 rfl (by kernel_rfl)) rfl rfl rfl ?_
  refine Seq.val (Runs.loadB rfl rfl Tryz.underlying4 rfl k0 rfl) rfl rfl rfl ?_
  refine Seq.val (Runs.assign rfl rfl) rfl rfl rfl ?_
  refine Seq.nil ?_
  refine Post.weak (F' := [(0, _), (1, _), (4, _), (5, _), (6, _), (9, _), (15, _), (18, _)]) ⟨rfl, rfl, rfl, rfl, rfl, rfl, rfl, rfl, trivial⟩ ?_
  refine Post.then_ ?_
  refine Cd.cond rfl (fun h => ?_) (fun h => ?_)
  · have h : broken = true := h
    rw [if_pos (by rw [hbr]; exact h), ← hW0]
    refine Cd.seq ?_
    refine Cd.region ?_
    refine Seq.val (Runs.assign rfl rfl) rfl rfl rfl ?_
    refine Seq.nil ?_
    refine Post.weak (F' := [(0, _), (1, _), (4, _), (5, _), (6, _), (9, _), (15, _), (18, _)]) ⟨rfl, rfl, rfl, rfl, rfl, rfl, rfl, rfl, trivial⟩ ?_
    refine Post.then_ ?_
    refine Cd.ret ?_
    refine Post.block_ret ?_
    refine Post.then_ret ?_
    refine Post.end1 rfl rfl (.inl rfl) ?_
    exact ⟨rfl, k0, dk, lf⟩
  have h : broken = false := h
  subst h
  rw [if_neg (by rw [hbr]; simp)]
  obtain ⟨fr, hfr⟩ : ∃ x, x = frameN data := ⟨_, rfl⟩
  have hfl : fr.length = data.length + 12 := by rw [hfr, frameN_len]
  have hfb : Byt fr := by rw [hfr]; exact frameN_lt hd
  rw [← hfr]
  have hW'e : W.turned data = if 1048576 - (size : Int) < (fr.length : Int) then (Wl.mk num count size false).rotate else ⟨num, count, size, false⟩ := by rw [← hW0, hfl]; rfl
  have hsz0 : size ≤ 1000000000 := by rw [← hW0] at hsz; exact hsz
  have hn0 : num ≤ 1000000 := by rw [← hW0] at hn; exact hn
  have hc0 : W.count = count := by rw [← hW0]
  have hs0 : W.size = size := by rw [← hW0]
  have hn1 : W.num = num := by rw [← hW0]
  obtain ⟨W', hW'⟩ : ∃ x, x = W.turned data := ⟨_, rfl⟩
  rw [← hW'] at hturn hW'e
  rw [← hW']
  refine Cd.skip ?_
  refine Post.block_normal ?_
  refine Post.then_ ?_
  refine Cd.seqJ (σ := Unit) (fun _ => [(0, .pointer (some ⟨g0, 0, none⟩)), (5, .string (strOf fr))]) (fun _ wr => Blk wr g0 80 (W'.cs gd nm) ∧ DkAt wr B gd D ∧ Lf B w wr ∧ Gv wr) ?_ ?_
  · skip
    refine Cd.seq ?_
    refine Cd.region ?_
    refine Seq.val (Runs.move rfl rfl) rfl rfl rfl ?_
    refine Seq.val (Runs.lenL rfl rfl Tryz.underlying9) rfl rfl rfl ?_
    refine Seq.val (Runs.move rfl rfl) rfl rfl rfl ?_
    refine Seq.val (Runs.nilCheck rfl rfl) rfl rfl rfl ?_
    refine Seq.val (Runs.fieldB 4 rfl rfl Tryz.underlying80 rfl (by kernel_rfl)) rfl rfl rfl ?_
    refine Seq.val (Runs.loadB rfl rfl Tryz.underlying3 rfl k0 rfl) rfl rfl rfl ?_
    refine Seq.val (Runs.subI rfl rfl rfl (by omega) (by omega)) rfl rfl rfl ?_
    refine Seq.val (Runs.gtr rfl rfl rfl) rfl rfl rfl ?_
    refine Seq.nil ?_
    refine Post.weak (F' := [(0, _), (1, _), (4, _), (5, _), (6, _), (9, _), (15, _), (18, _), (30, _)]) ⟨rfl, rfl, rfl, rfl, rfl, rfl, rfl, rfl, rfl, trivial⟩ ?_
    refine Post.then_ ?_
    refine Cd.cond rfl (fun h => ?_) (fun h => ?_)
    · have h : 1048576 - (size : Int) < (fr.length : Int) := by simpa using h
      rw [if_pos h] at hW'e
      rw [hW'e]
      refine Cd.region ?_
      refine Seq.val (Runs.move rfl rfl) rfl rfl rfl ?_
      refine Seq.call (Enters.func rfl rfl rfl (run_enter Tryz.func29 (by kernel_rfl) rfl)) rfl rfl rfl (rotate_any B g0 gd D nm ⟨num, count, size, false⟩ _ e0 (by have := lf.size; omega) k0 dk (by show num ≤ _; omega)) ?_
      clear k0 dk
      rintro e w1 ⟨rfl, k0, dk, fw1⟩
      refine ⟨_, rfl, ?_⟩
      replace lf := lf.lf fw1
      replace gv := gv.lf fw1
      refine Seq.nil ?_
      refine Post.weak (F' := [(0, _), (1, _), (4, _), (5, _), (6, _), (9, _), (15, _), (18, _), (30, _)]) ⟨rfl, rfl, rfl, rfl, rfl, rfl, rfl, rfl, rfl, trivial⟩ ?_
      exact Post.join () ⟨rfl, rfl, trivial⟩ ⟨k0, dk, lf, gv⟩
    · have h : ¬ (1048576 - (size : Int) < (fr.length : Int)) := by simpa using h
      rw [if_neg h] at hW'e
      rw [hW'e]
      refine Cd.skip ?_
      exact Post.join () ⟨rfl, rfl, trivial⟩ ⟨k0, dk, lf, gv⟩
  clear lf dk k0 gv
  rintro ⟨⟩ wj ⟨k0, dk, lf, gv⟩
  obtain ⟨ht1, ht2, ht3, ht4⟩ := hturn
  clear hW'e hW'
  obtain ⟨num', count', size', broken'⟩ := W'
  simp only at ht1 ht2 ht3 ht4
  simp only
  obtain rfl : broken' = false := by rw [ht4, hbr]
  refine Cd.seq ?_
  refine Cd.seq ?_
  refine Cd.region ?_
  refine Seq.val (Runs.move rfl rfl) rfl rfl rfl ?_
  refine Seq.val (Runs.move rfl rfl) rfl rfl rfl ?_
  refine Seq.call (Enters.func rfl rfl rfl (run_enter Tryz.func40 (by kernel_rfl) rfl)) rfl rfl rfl (room_any B g0 gd D nm fr ⟨num', count', size', false⟩ _ k0 dk (by omega)) ?_
  rintro e w6 ⟨rfl, hb6⟩
  refine ⟨_, rfl, ?_⟩
  rw [hfl]
  simp only
  replace lf := lf.step hb6
  replace dk := dk.step hb6
  replace k0 := k0.step hb6
  replace gv := gv.step hb6
  refine Seq.val (Runs.not rfl rfl) rfl rfl rfl ?_
  refine Seq.nil ?_
  refine Post.weak (F' := [(0, _), (5, _), (36, _)]) ⟨rfl, rfl, rfl, trivial⟩ ?_
  refine Post.then_ ?_
  refine Cd.cond rfl (fun h => ?_) (fun h => ?_)
  · have h : roomW D num' count' (data.length + 12) = false := by simpa using h
    rw [if_pos h]
    refine Cd.seq ?_
    refine Cd.region ?_
    refine Seq.val (Runs.assign rfl rfl) rfl rfl rfl ?_
    refine Seq.nil ?_
    refine Post.weak (F' := [(0, _), (4, _), (5, _), (36, _)]) ⟨rfl, rfl, rfl, rfl, trivial⟩ ?_
    refine Post.then_ ?_
    refine Cd.ret ?_
    refine Post.then_ret ?_
    refine Post.end1 rfl rfl (.inl rfl) ?_
    exact ⟨rfl, k0, dk, lf⟩
  have h : roomW D num' count' (data.length + 12) = true := by simpa using h
  rw [if_neg (by simp [h])]
  have hn6 : num' ≤ 999999 := by
    unfold roomW at h
    rw [Bool.and_eq_true, decide_eq_true_eq] at h
    exact h.2
  refine Cd.skip ?_
  refine Post.then_ ?_
  refine Cd.seq ?_
  refine Cd.seq ?_
  refine Cd.region ?_
  refine Seq.val (Runs.move rfl rfl) rfl rfl rfl ?_
  refine Seq.val (Runs.move rfl rfl) rfl rfl rfl ?_
  refine Seq.call (Enters.func rfl rfl rfl (run_enter Tryz.func41 (by kernel_rfl) rfl)) rfl rfl rfl (lay_any B g0 gd D nm fr ⟨num', count', size', false⟩ _ gv hgB k0 dk hnm hnl hn6 (by show count' ≤ _; omega) hfb (by omega)) ?_
  clear dk
  rintro e w1 ⟨rfl, dk, fw1⟩
  refine ⟨_, rfl, ?_⟩
  replace lf := lf.df fw1
  replace k0 := k0.df fw1
  replace gv := gv.df fw1
  simp only at dk
  simp only
  unfold Wl.cs at k0
  simp only at k0
  refine Seq.val (Runs.assign rfl rfl) rfl rfl rfl ?_
  refine Seq.nil ?_
  refine Post.weak (F' := [(0, _), (5, _), (7, _), (36, _)]) ⟨rfl, rfl, rfl, rfl, trivial⟩ ?_
  refine Post.then_ ?_
  refine Cd.seq ?_
  refine Cd.region ?_
  refine Seq.val (Runs.move rfl rfl) rfl rfl rfl ?_
  refine Seq.val (Runs.neqI rfl rfl rfl) rfl rfl rfl ?_
  refine Seq.nil ?_
  refine Post.weak (F' := [(0, _), (5, _), (7, _), (36, _), (41, _)]) ⟨rfl, rfl, rfl, rfl, rfl, trivial⟩ ?_
  refine Post.then_ ?_
  refine Cd.cond rfl (fun h => ?_) (fun h => ?_)
  · have h : (D.lay nm num' count' fr).2 ≠ 0 := by simpa using h
    rw [if_pos h]
    refine Cd.seq ?_
    refine Cd.region ?_
    refine Seq.val (Runs.move rfl rfl) rfl rfl rfl ?_
    refine Seq.val (Runs.nilCheck rfl rfl) rfl rfl rfl ?_
    refine Seq.val (Runs.fieldB 5 rfl rfl Tryz.underlying80 rfl (by kernel_rfl)) rfl rfl rfl ?_
    refine Seq.store1 rfl rfl rfl (by kernel_rfl) rfl rfl k0 rfl rfl rfl ?_
    intro w2 pw2
    replace lf := lf.put k0 pw2 e0
    replace dk := dk.put k0 pw2 e0
    replace gv := gv.put k0 pw2 e0
    replace k0 := pw2.blk
    refine Seq.nil ?_
    refine Post.weak (F' := [(0, _), (5, _), (7, _), (36, _), (41, _)]) ⟨rfl, rfl, rfl, rfl, rfl, trivial⟩ ?_
    refine Post.then_ ?_
    refine Cd.seq ?_
    refine Cd.region ?_
    refine Seq.val (Runs.move rfl rfl) rfl rfl rfl ?_
    refine Seq.val (Runs.assign rfl rfl) rfl rfl rfl ?_
    refine Seq.nil ?_
    refine Post.weak (F' := [(0, _), (4, _), (5, _), (7, _), (36, _), (41, _)]) ⟨rfl, rfl, rfl, rfl, rfl, rfl, trivial⟩ ?_
    refine Post.then_ ?_
    refine Cd.ret ?_
    refine Post.then_ret ?_
    refine Post.end1 rfl rfl (.inl rfl) ?_
    exact ⟨rfl, k0, dk, lf⟩
  have h : ¬ ((D.lay nm num' count' fr).2 ≠ 0) := by simpa using h
  rw [if_neg h]
  refine Cd.skip ?_
  refine Post.then_ ?_
  refine Cd.seq ?_
  refine Cd.region ?_
  refine Seq.val (Runs.move rfl rfl) rfl rfl rfl ?_
  refine Seq.val (Runs.nilCheck rfl rfl) rfl rfl rfl ?_
  refine Seq.val (Runs.fieldB 3 rfl rfl Tryz.underlying80 rfl (by kernel_rfl)) rfl rfl rfl ?_
  refine Seq.val (Runs.loadB rfl rfl Tryz.underlying3 rfl k0 rfl) rfl rfl rfl ?_
  refine Seq.val (Runs.addI rfl rfl rfl (by omega) (by omega)) rfl rfl rfl ?_
  refine Seq.val (Runs.nilCheck rfl rfl) rfl rfl rfl ?_
  refine Seq.val (Runs.fieldB 3 rfl rfl Tryz.underlying80 rfl (by kernel_rfl)) rfl rfl rfl ?_
  refine Seq.store1 rfl rfl rfl (by kernel_rfl) rfl rfl k0 rfl rfl rfl ?_
  intro w2 pw2
  replace lf := lf.put k0 pw2 e0
  replace dk := dk.put k0 pw2 e0
  replace gv := gv.put k0 pw2 e0
  replace k0 := pw2.blk
  refine Seq.nil ?_
  refine Post.weak (F' := [(0, _), (5, _), (7, _), (36, _), (41, _)]) ⟨rfl, rfl, rfl, rfl, rfl, trivial⟩ ?_
  refine Post.then_ ?_
  refine Cd.seq ?_
  refine Cd.region ?_
  refine Seq.val (Runs.move rfl rfl) rfl rfl rfl ?_
  refine Seq.val (Runs.nilCheck rfl rfl) rfl rfl rfl ?_
  refine Seq.val (Runs.fieldB 4 rfl rfl Tryz.underlying80 rfl (by kernel_rfl)) rfl rfl rfl ?_
  refine Seq.val (Runs.loadB rfl rfl Tryz.underlying3 rfl k0 rfl) rfl rfl rfl ?_
  refine Seq.val (Runs.move rfl rfl) rfl rfl rfl ?_
  refine Seq.val (Runs.lenL rfl rfl Tryz.underlying9) rfl rfl rfl ?_
  refine Seq.val (Runs.addI rfl rfl rfl (by omega) (by omega)) rfl rfl rfl ?_
  refine Seq.val (Runs.nilCheck rfl rfl) rfl rfl rfl ?_
  refine Seq.val (Runs.fieldB 4 rfl rfl Tryz.underlying80 rfl (by kernel_rfl)) rfl rfl rfl ?_
  refine Seq.store1 rfl rfl rfl (by kernel_rfl) rfl rfl k0 rfl rfl rfl ?_
  intro w3 pw3
  replace lf := lf.put k0 pw3 e0
  replace dk := dk.put k0 pw3 e0
  replace gv := gv.put k0 pw3 e0
  replace k0 := pw3.blk
  refine Seq.nil ?_
  refine Post.weak (F' := [(0, _), (5, _), (7, _), (36, _), (41, _)]) ⟨rfl, rfl, rfl, rfl, rfl, trivial⟩ ?_
  refine Post.then_ ?_
  refine Cd.seq ?_
  refine Cd.region ?_
  refine Seq.val (Runs.assign rfl rfl) rfl rfl rfl ?_
  refine Seq.nil ?_
  refine Post.weak (F' := [(0, _), (4, _), (5, _), (7, _), (36, _), (41, _)]) ⟨rfl, rfl, rfl, rfl, rfl, rfl, trivial⟩ ?_
  refine Post.then_ ?_
  refine Cd.ret ?_
  refine Post.end1 rfl rfl (.inl rfl) ?_
  refine ⟨rfl, ?_, dk, lf⟩
  unfold Wl.cs
  simp only
  rw [← hfl]
  exact k0
end Go.Proofs.YtnlepoplncjliaaGreatDoor

namespace Go.Proofs.YtnlepoplncjliaaGreatDoor
open Go.RowKit

/-- A file of which all is safe. -/
def full (s : List Nat) : Fil := ⟨s, s.length⟩
theorem app_sync {D : Dk} {a s : List Nat} (hc : D.calm) (hn : (D.files.map (·.1)).Nodup) (ha : nameOk a = true) (h1 : (D.get a).isSome = true ∨ D.files.length < 200) (h2 : (D.fileOf a).data.length + s.length ≤ 1048576) (h3 : (s.length : Int) ≤ D.room - D.used) :
    D.appendE a s = 0 ∧ (D.append a s).thereE [a] a = 0 ∧ ((D.append a s).sync a).calm ∧ (((D.append a s).sync a).files.map (·.1)).Nodup ∧ ((D.append a s).sync a).room = D.room ∧ ((D.append a s).sync a).used = D.used + (s.length : Int) ∧ ((D.append a s).sync a).files.length ≤ D.files.length + 1 ∧ ∀ x, ((D.append a s).sync a).get x = if x = a then some (full ((D.fileOf a).data ++ s)) else D.get x := by
  have hE := appendE_calm hc ha h1 h2 h3
  have hg := get_append hE
  have hc1 := append_calm (a := a) (s := s) hc
  have hn1 := append_nodup (a := a) (s := s) hn
  have hga := hg a
  rw [if_pos rfl] at hga
  refine ⟨hE, ?_, sync_calm hc1, ?_, ?_, ?_, ?_, fun x => ?_⟩
  · rw [thereE_calm hc1 (by simpa using ha), hga]; rfl
  · rw [sync_names]; exact hn1
  · rw [sync_room, append_room]
  · rw [sync_used hn1, append_used hn hE]
  · rw [sync_len]; exact append_len D a s
  · rw [get_sync hc1 ha hga, hg x]
    by_cases e : x = a
    · rw [if_pos e, if_pos e]; rfl
    · rw [if_neg e, if_neg e, if_neg e]
theorem lay_calm {D : Dk} {nm : List Nat} {num count : Nat} {s : List Nat} (hc : D.calm) (hn : (D.files.map (·.1)).Nodup) (hnl : nm.length ≤ 8) (hnum : num ≤ 999999) (h1 : (D.get (fileN nm num logK)).isSome = true ∨ D.files.length + 2 ≤ 200) (h1' : (D.get (fileN nm num ackK)).isSome = true ∨ D.files.length + 2 ≤ 200)
    (h2 : (D.fileOf (fileN nm num logK)).data.length + s.length ≤ 1048576) (h2' : (D.fileOf (fileN nm num ackK)).data.length + 12 ≤ 1048576) (h3 : (s.length : Int) + 12 ≤ D.room - D.used) :
    (D.lay nm num count s).2 = 0 ∧ (D.lay nm num count s).1.calm ∧ ((D.lay nm num count s).1.files.map (·.1)).Nodup ∧ (D.lay nm num count s).1.room = D.room ∧ (D.lay nm num count s).1.used = D.used + (s.length : Int) + 12 ∧ (D.lay nm num count s).1.files.length ≤ D.files.length + 2 ∧
    ∀ x, (D.lay nm num count s).1.get x = if x = fileN nm num ackK then some (full ((D.fileOf (fileN nm num ackK)).data ++ markN (count + 1))) else if x = fileN nm num logK then some (full ((D.fileOf (fileN nm num logK)).data ++ s)) else D.get x := by
  have hne : fileN nm num ackK ≠ fileN nm num logK := fun e => by
    have := (fileN_inj hnum hnum e).2
    revert this
    decide
  have hok : ∀ k : List Nat, k.length = 4 → nameOk (fileN nm num k) = true := fun k hk => by
    have hl := fileN_len (nm := nm) (k := k) hnum
    unfold nameOk
    rw [Bool.and_eq_true, decide_eq_true_eq, decide_eq_true_eq]
    refine ⟨fun e => ?_, by omega⟩
    rw [e] at hl
    simp at hl
    omega
  have hlg := hok logK rfl
  have hak := hok ackK rfl
  obtain ⟨lg, hlg0⟩ : ∃ x, x = fileN nm num logK := ⟨_, rfl⟩
  obtain ⟨ak, hak0⟩ : ∃ x, x = fileN nm num ackK := ⟨_, rfl⟩
  unfold Dk.lay Dk.note
  rw [← hlg0] at h1 h2 hne hlg
  rw [← hak0] at h1' h2' hne hak
  rw [← hlg0, ← hak0]
  obtain ⟨a1, a2, a3, a4, a5, a6, a7, a8⟩ := app_sync (D := D) (a := lg) (s := s) hc hn hlg (h1.imp_right fun h => by omega) h2 (by omega)
  rw [if_neg (by omega), if_neg (by omega)]
  obtain ⟨E, hE⟩ : ∃ E, E = (D.append lg s).sync lg := ⟨_, rfl⟩
  rw [← hE] at a3 a4 a5 a6 a7 a8
  rw [← hE]
  have hga : E.get ak = D.get ak := by rw [a8, if_neg hne]
  have hfa : E.fileOf ak = D.fileOf ak := by rw [fileOf_eq, fileOf_eq, hga]
  obtain ⟨b1, b2, b3, b4, b5, b6, b7, b8⟩ := app_sync (D := E) (a := ak) (s := markN (count + 1)) a3 a4 hak (h1'.imp (fun h => by rw [hga]; exact h) fun h => by omega) (by rw [hfa, markN_len]; exact h2') (by rw [markN_len, a5, a6]; omega)
  rw [if_neg (by omega)]
  refine ⟨b2, b3, b4, by rw [b5, a5], by rw [b6, a6, markN_len]; omega, Nat.le_trans b7 (by omega), fun x => ?_⟩
  rw [b8, hfa]
  by_cases e : x = ak
  · rw [if_pos e, if_pos e]
  · rw [if_neg e, if_neg e, a8]
/-- A log: what its files hold. -/
structure LogIs (D : Dk) (nm : List Nat) (segs : List (Nat × List (List Nat))) : Prop where
  calm : D.calm
  nd : (D.files.map (·.1)).Nodup
  inc : (segs.map (·.1)).Pairwise (· < ·)
  le : ∀ s ∈ segs, s.1 ≤ 999999
  recs : ∀ s ∈ segs, s.2 ≠ [] ∧ (∀ r ∈ s.2, Byt r ∧ r.length ≤ 131072) ∧ s.2.length ≤ 131072
  log : ∀ s ∈ segs, D.get (fileN nm s.1 logK) = some (full (framesN s.2))
  ack : ∀ s ∈ segs, D.get (fileN nm s.1 ackK) = some (full (marksN s.2.length))
  own : ∀ x, (D.get x).isSome = true → ∃ s ∈ segs, x = fileN nm s.1 logK ∨ x = fileN nm s.1 ackK
/-- All records, and the number behind. -/
def recsOf (segs : List (Nat × List (List Nat))) : List (Nat × List Nat) := segs.flatMap fun s => s.2.map fun r => (s.1, r)
def nextN : Nat → List (Nat × List (List Nat)) → Nat
  | num, [] => num
  | _, s :: r => nextN (s.1 + 1) r
theorem recsOf_app (a b : List (Nat × List (List Nat))) : recsOf (a ++ b) = recsOf a ++ recsOf b := by simp [recsOf]
theorem nextN_app (a : List (Nat × List (List Nat))) (s : Nat × List (List Nat)) : ∀ num, nextN num (a ++ [s]) = s.1 + 1 := by
  induction a with
  | nil => intro num; rfl
  | cons x a ih => intro num; exact ih _
theorem LogIs.own_nm {D : Dk} {nm : List Nat} {segs : List (Nat × List (List Nat))} (h : LogIs D nm segs) : ∀ p ∈ D.files, OwnNm nm p.1 := by
  intro p hp
  obtain ⟨s, hs, e⟩ := h.own p.1 (mem_names.1 (List.mem_map.2 ⟨p, hp, rfl⟩))
  rcases e with e | e
  · exact ⟨s.1, logB, h.le s hs, .inl rfl, e⟩
  · exact ⟨s.1, ackB, h.le s hs, .inr (.inl rfl), e⟩
theorem LogIs.nums {D : Dk} {nm : List Nat} {segs : List (Nat × List (List Nat))} (h : LogIs D nm segs) : numsL nm (D.files.map (·.1)) = segs.map (·.1) := by
  refine inc_eq numsL_inc h.inc fun n => ?_
  rw [numsL_mem]
  constructor
  · rintro ⟨h1, h2⟩
    have key : ∀ k : List Nat, fileN nm n (46 :: k) ∈ D.files.map (·.1) → n ∈ segs.map (·.1) := fun k hk => by
      obtain ⟨s, hs, e⟩ := h.own _ (mem_names.1 hk)
      have : n = s.1 := by
        rcases e with e | e
        · exact (fileN_inj h1 (h.le s hs) e).1
        · exact (fileN_inj h1 (h.le s hs) e).1
      rw [this]
      exact List.mem_map.2 ⟨s, hs, rfl⟩
    rcases h2 with h2 | h2
    · exact key _ h2
    · exact key _ h2
  · intro hn
    obtain ⟨s, hs, rfl⟩ := List.mem_map.1 hn
    refine ⟨h.le s hs, .inl (mem_names.2 ?_)⟩
    show (D.get (fileN nm s.1 logK)).isSome = true
    rw [h.log s hs]
    rfl
theorem LogIs.seg {D : Dk} {nm : List Nat} {segs : List (Nat × List (List Nat))} (h : LogIs D nm segs) {s : Nat × List (List Nat)} (hs : s ∈ segs) : segN D nm s.1 = (D, 0, s.2) := by
  obtain ⟨h1, h2, h3⟩ := h.recs s hs
  have e1 : D.datN (fileN nm s.1 logK) = framesN s.2 := by unfold Dk.datN; rw [h.log s hs]; rfl
  have e2 : D.datN (fileN nm s.1 ackK) = marksN s.2.length := by unfold Dk.datN; rw [h.ack s hs]; rfl
  unfold segN
  rw [e1, e2, allN_frames (fun r hr => (h2 r hr).2), countN_marks h3, if_neg (by simp), if_neg (by simp), if_neg (by simp)]
theorem openGo_log {D : Dk} {nm : List Nat} : ∀ (segs : List (Nat × List (List Nat))) (acc : List (Nat × List Nat)) (num : Nat), (∀ s ∈ segs, segN D nm s.1 = (D, 0, s.2)) → openGo nm (segs.map (·.1)) D acc num = (D, 0, acc ++ recsOf segs, nextN num segs)
  | [], acc, num, _ => by simp [openGo, recsOf, nextN]
  | s :: r, acc, num, h => by
    rw [List.map_cons, openGo, h s List.mem_cons_self, if_neg (by simp), openGo_log r _ _ (fun x hx => h x (List.mem_cons_of_mem _ hx))]
    have : recsOf (s :: r) = (s.2.map fun x => (s.1, x)) ++ recsOf r := by simp [recsOf]
    rw [this, ← List.append_assoc]
    rfl
theorem LogIs.opens {D : Dk} {nm : List Nat} {segs : List (Nat × List (List Nat))} (h : LogIs D nm segs) : openW D nm = (D, 0, recsOf segs, nextN 0 segs) := by
  unfold openW
  rw [h.nums, openGo_log segs [] 0 (fun s hs => h.seg hs)]
  rfl
theorem LogIs.nil {room : Int} {nm : List Nat} : LogIs (Dk.new room) nm [] := ⟨⟨rfl, rfl⟩, by simp [Dk.new], by simp, by simp, by simp, by simp, by simp, fun x hx => by cases hx⟩
/-- A log under way. -/
structure WlIs (D : Dk) (nm : List Nat) (W : Wl) (segs : List (Nat × List (List Nat))) : Prop where
  log : LogIs D nm segs
  broken : W.broken = false
  at_ : (W.count = 0 ∧ W.size = 0 ∧ ∀ s ∈ segs, s.1 < W.num) ∨ ∃ ini l, segs = ini ++ [(W.num, l)] ∧ W.count = l.length ∧ W.size = (framesN l).length
/-- A record more. -/
def addS (segs : List (Nat × List (List Nat))) (W : Wl) (data : List Nat) : List (Nat × List (List Nat)) := if W.count = 0 then segs ++ [(W.num, [data])] else segs.map fun s => if s.1 = W.num then (s.1, s.2 ++ [data]) else s
theorem WlIs.opened {D : Dk} {nm : List Nat} {segs : List (Nat × List (List Nat))} (h : LogIs D nm segs) : WlIs D nm ⟨nextN 0 segs, 0, 0, false⟩ segs := by
  refine ⟨h, rfl, .inl ⟨rfl, rfl, fun s hs => ?_⟩⟩
  show s.1 < nextN 0 segs
  rcases List.eq_nil_or_concat segs with e | ⟨ini, t, e⟩
  · rw [e] at hs; cases hs
  · rw [List.concat_eq_append] at e
    subst e
    rw [nextN_app]
    rcases List.mem_append.1 hs with h1 | h1
    · have := h.inc
      rw [List.map_append, List.pairwise_append] at this
      have := this.2.2 s.1 (List.mem_map.2 ⟨s, h1, rfl⟩) t.1 (by simp)
      omega
    · simp at h1; subst h1; omega
theorem WlIs.last {D : Dk} {nm : List Nat} {W : Wl} {segs : List (Nat × List (List Nat))} (h : WlIs D nm W segs) : ∃ ini l, (if W.count = 0 then segs = ini ∧ l = [] else segs = ini ++ [(W.num, l)]) ∧ (∀ s ∈ ini, s.1 < W.num) ∧ W.count = l.length ∧ W.size = (framesN l).length := by
  rcases h.at_ with ⟨h1, h2, h3⟩ | ⟨ini, l, h1, h2, h3⟩
  · exact ⟨segs, [], by rw [if_pos h1]; exact ⟨rfl, rfl⟩, h3, h1, h2⟩
  · have hm : (W.num, l) ∈ segs := by rw [h1]; simp
    have hne := (h.log.recs _ hm).1
    have hc : ¬ (W.count = 0) := by
      rw [h2]
      intro e
      exact hne (List.eq_nil_of_length_eq_zero e)
    refine ⟨ini, l, by rw [if_neg hc]; exact h1, fun s hs => ?_, h2, h3⟩
    have := h.log.inc
    rw [h1, List.map_append, List.pairwise_append] at this
    exact this.2.2 s.1 (List.mem_map.2 ⟨s, hs, rfl⟩) W.num (by simp)
/-- A record laid: the answer, and what the log is then. -/
theorem WlIs.append {D : Dk} {nm data : List Nat} {W : Wl} {segs : List (Nat × List (List Nat))} (h : WlIs D nm W segs) (hnl : nm.length ≤ 8) (hd : Byt data) (hdl : data.length ≤ 131072) (hnum : W.num ≤ 999999) (hcnt : W.count + 1 ≤ 80000) (hsz : W.size + (data.length + 12) ≤ 1048576) (hfl : D.files.length + 2 ≤ 200) (hroom : (data.length : Int) + 36 ≤ D.room - D.used) :
    ∃ D' segs', appW W D nm data = (⟨W.num, W.count + 1, W.size + (data.length + 12), false⟩, D', 0) ∧ WlIs D' nm ⟨W.num, W.count + 1, W.size + (data.length + 12), false⟩ segs' ∧ recsOf segs' = recsOf segs ++ [(W.num, data)] ∧ D'.room = D.room ∧ D'.used = D.used + (data.length : Int) + 24 ∧ D'.files.length ≤ D.files.length + 2 := by
  obtain ⟨ini, l, hsegs, hini, hcl, hszl⟩ := h.last
  have hL := h.log
  have hturn : W.turned data = W := by unfold Wl.turned; rw [if_neg (by omega)]
  have hfrl := frameN_len data
  have hrw : roomW D W.num W.count (data.length + 12) = true := by
    unfold roomW
    rw [Bool.and_eq_true, Bool.and_eq_true, Bool.or_eq_true, decide_eq_true_eq, decide_eq_true_eq, decide_eq_true_eq]
    exact ⟨⟨by omega, .inr hfl⟩, hnum⟩
  have hlog : D.fileOf (fileN nm W.num logK) = full (framesN l) := by
    rw [fileOf_eq]
    by_cases hc : W.count = 0
    · rw [if_pos hc] at hsegs
      obtain ⟨rfl, rfl⟩ := hsegs
      cases e : D.get (fileN nm W.num logK) with
      | none => rfl
      | some f =>
        exfalso
        obtain ⟨s, hs, e2⟩ := hL.own _ (by rw [e]; rfl)
        have h3 := hini s hs
        have : W.num = s.1 := by rcases e2 with e2 | e2 <;> exact (fileN_inj hnum (hL.le s hs) e2).1
        omega
    · rw [if_neg hc] at hsegs
      rw [hL.log (W.num, l) (by rw [hsegs]; simp)]
      rfl
  have hack : D.fileOf (fileN nm W.num ackK) = full (marksN l.length) := by
    rw [fileOf_eq]
    by_cases hc : W.count = 0
    · rw [if_pos hc] at hsegs
      obtain ⟨rfl, rfl⟩ := hsegs
      cases e : D.get (fileN nm W.num ackK) with
      | none => rfl
      | some f =>
        exfalso
        obtain ⟨s, hs, e2⟩ := hL.own _ (by rw [e]; rfl)
        have h3 := hini s hs
        have : W.num = s.1 := by rcases e2 with e2 | e2 <;> exact (fileN_inj hnum (hL.le s hs) e2).1
        omega
    · rw [if_neg hc] at hsegs
      rw [hL.ack (W.num, l) (by rw [hsegs]; simp)]
      rfl
  have hml := marksN_len l.length
  obtain ⟨a1, a2, a3, a4, a5, a6, a7⟩ := lay_calm (D := D) (nm := nm) (num := W.num) (count := W.count) (s := frameN data) hL.calm hL.nd hnl hnum (.inr hfl) (.inr hfl) (by rw [hlog]; show (framesN l).length + _ ≤ _; omega) (by rw [hack]; show (marksN l.length).length + 12 ≤ _; omega) (by omega)
  obtain ⟨E, hE⟩ : ∃ E, E = (D.lay nm W.num W.count (frameN data)).1 := ⟨_, rfl⟩
  rw [← hE] at a2 a3 a4 a5 a6 a7
  have hfr : framesN l ++ frameN data = framesN (l ++ [data]) := by rw [framesN_app, framesN_one]
  have hmr : marksN l.length ++ markN (W.count + 1) = marksN (l ++ [data]).length := by rw [hcl, List.length_append, List.length_singleton, marksN_succ]
  rw [hlog, hack] at a7
  have e1 : (full (marksN l.length)).data = marksN l.length := rfl
  have e2 : (full (framesN l)).data = framesN l := rfl
  rw [e1, e2, hfr, hmr] at a7
  refine ⟨E, ini ++ [(W.num, l ++ [data])], ?_, ⟨⟨a2, a3, ?_, ?_, ?_, ?_, ?_, ?_⟩, rfl, .inr ⟨ini, l ++ [data], rfl, ?_, ?_⟩⟩, ?_, a4, by rw [a5]; omega, a6⟩
  · unfold appW
    rw [hturn, if_neg (by omega), if_neg (by simp [h.broken]), if_neg (by simp [hrw]), if_neg (by simp [a1]), h.broken, hE]
  · rw [List.map_append, List.pairwise_append]
    refine ⟨?_, by simp, fun a ha b hb => ?_⟩
    · have := hL.inc
      by_cases hc : W.count = 0
      · rw [if_pos hc] at hsegs; rw [hsegs.1] at this; exact this
      · rw [if_neg hc] at hsegs; rw [hsegs, List.map_append, List.pairwise_append] at this; exact this.1
    · obtain ⟨s, hs, rfl⟩ := List.mem_map.1 ha
      simp at hb
      subst hb
      exact hini s hs
  all_goals
    have hsub : ∀ s ∈ ini, s ∈ segs := fun s hs => by
      by_cases hc : W.count = 0
      · rw [if_pos hc] at hsegs; rw [hsegs.1]; exact hs
      · rw [if_neg hc] at hsegs; rw [hsegs]; exact List.mem_append_left _ hs
  · intro s hs
    rcases List.mem_append.1 hs with hs | hs
    · exact hL.le s (hsub s hs)
    · simp at hs; subst hs; exact hnum
  · intro s hs
    rcases List.mem_append.1 hs with hs | hs
    · exact hL.recs s (hsub s hs)
    · simp at hs
      subst hs
      refine ⟨by simp, fun r hr => ?_, by simp only [List.length_append, List.length_singleton]; omega⟩
      rcases List.mem_append.1 hr with hr | hr
      · by_cases hc : W.count = 0
        · rw [if_pos hc] at hsegs; rw [hsegs.2] at hr; cases hr
        · rw [if_neg hc] at hsegs
          exact (hL.recs (W.num, l) (by rw [hsegs]; simp)).2.1 r hr
      · simp at hr; subst hr; exact ⟨hd, hdl⟩
  · intro s hs
    rw [a7]
    rcases List.mem_append.1 hs with hs | hs
    · have h3 := hini s hs
      have n1 : fileN nm s.1 logK ≠ fileN nm W.num ackK := fun e => by have := (fileN_inj (hL.le s (hsub s hs)) hnum e).1; omega
      have n2 : fileN nm s.1 logK ≠ fileN nm W.num logK := fun e => by have := (fileN_inj (hL.le s (hsub s hs)) hnum e).1; omega
      rw [if_neg n1, if_neg n2]
      exact hL.log s (hsub s hs)
    · simp at hs
      subst hs
      have n1 : fileN nm W.num logK ≠ fileN nm W.num ackK := fun e => by
        have := (fileN_inj hnum hnum e).2
        revert this
        decide
      rw [if_neg n1, if_pos rfl]
  · intro s hs
    rw [a7]
    rcases List.mem_append.1 hs with hs | hs
    · have h3 := hini s hs
      have n1 : fileN nm s.1 ackK ≠ fileN nm W.num ackK := fun e => by have := (fileN_inj (hL.le s (hsub s hs)) hnum e).1; omega
      have n2 : fileN nm s.1 ackK ≠ fileN nm W.num logK := fun e => by have := (fileN_inj (hL.le s (hsub s hs)) hnum e).1; omega
      rw [if_neg n1, if_neg n2]
      exact hL.ack s (hsub s hs)
    · simp at hs
      subst hs
      rw [if_pos rfl]
  · intro x hx
    rw [a7] at hx
    by_cases n1 : x = fileN nm W.num ackK
    · exact ⟨(W.num, l ++ [data]), by simp, .inr n1⟩
    · rw [if_neg n1] at hx
      by_cases n2 : x = fileN nm W.num logK
      · exact ⟨(W.num, l ++ [data]), by simp, .inl n2⟩
      · rw [if_neg n2] at hx
        obtain ⟨s, hs, e⟩ := hL.own x hx
        by_cases hc : W.count = 0
        · rw [if_pos hc] at hsegs
          rw [hsegs.1] at hs
          exact ⟨s, List.mem_append_left _ hs, e⟩
        · rw [if_neg hc] at hsegs
          rw [hsegs] at hs
          rcases List.mem_append.1 hs with hs | hs
          · exact ⟨s, List.mem_append_left _ hs, e⟩
          · simp at hs
            subst hs
            rcases e with e | e
            · exact absurd e n2
            · exact absurd e n1
  · show W.count + 1 = _
    rw [List.length_append, List.length_singleton]; omega
  · show W.size + (data.length + 12) = _
    rw [← hfr, List.length_append]; omega
  · rw [recsOf_app]
    have e3 : recsOf [(W.num, l ++ [data])] = recsOf [(W.num, l)] ++ [(W.num, data)] := by simp [recsOf]
    rw [e3, ← List.append_assoc, ← recsOf_app]
    congr 1
    by_cases hc : W.count = 0
    · rw [if_pos hc] at hsegs
      obtain ⟨rfl, rfl⟩ := hsegs
      simp [recsOf]
    · rw [if_neg hc] at hsegs
      rw [hsegs]
end Go.Proofs.YtnlepoplncjliaaGreatDoor

namespace Go.Proofs.YtnlepoplncjliaaGreatDoor
open Go.RowKit

/-- Segments with lower numbers go. -/
def retGo (nm : List Nat) (lim : Int) : List Nat → Dk → Dk × Int
  | [], D => (D, 0)
  | n :: r, D =>
    if lim ≤ (n : Int) then (D, 0)
    else if D.dropE (fileN nm n ackK) ≠ 0 then (D.delete (fileN nm n ackK), D.dropE (fileN nm n ackK))
    else if (D.delete (fileN nm n ackK)).dropE (fileN nm n logK) ≠ 0 then ((D.delete (fileN nm n ackK)).delete (fileN nm n logK), (D.delete (fileN nm n ackK)).dropE (fileN nm n logK))
    else retGo nm lim r ((D.delete (fileN nm n ackK)).delete (fileN nm n logK))
noncomputable def retW (W : Wl) (D : Dk) (nm : List Nat) (below : Int) : Wl × Dk × Int :=
  if W.broken = true then (W, D, 6)
  else if (retGo nm (min below (W.num : Int)) (numsL nm (D.files.map (·.1))) D).2 ≠ 0 then ({ W with broken := true }, (retGo nm (min below (W.num : Int)) (numsL nm (D.files.map (·.1))) D).1, (retGo nm (min below (W.num : Int)) (numsL nm (D.files.map (·.1))) D).2)
  else (W, (retGo nm (min below (W.num : Int)) (numsL nm (D.files.map (·.1))) D).1, 0)
def kindR (j : Nat) : List Nat := if j = 0 then ackK else logK
/-- What is left to do of a segment, and behind. -/
def remR (nm : List Nat) (n : Nat) (lim : Int) (r : List Nat) : Nat → Dk → Dk × Int
  | 0, D => retGo nm lim r D
  | k + 1, D => if D.dropE (fileN nm n (kindR (1 - k))) ≠ 0 then (D.delete (fileN nm n (kindR (1 - k))), D.dropE (fileN nm n (kindR (1 - k)))) else remR nm n lim r k (D.delete (fileN nm n (kindR (1 - k))))
theorem kindR_byt (j : Nat) : Byt (kindR j) := by unfold kindR; split; exact ackK_byt; exact logK_byt
theorem kindR_len (j : Nat) : (kindR j).length = 4 := by unfold kindR; split <;> rfl
set_option maxHeartbeats 4000000 in
theorem retire_any (B g0 gd : Nat) (D : Dk) (nm : List Nat) (below : Int) (W : Wl) (w : World) (gv : Gv w) (hgB : 4 < B) (e0 : B ≤ g0) (k0 : Blk w g0 80 (W.cs gd nm)) (dk : DkAt w B gd D) (hnm : Byt nm) (hnl : nm.length ≤ 8) (hown : ∀ p ∈ D.files, OwnNm nm p.1) (hn : W.num ≤ 1000000000) :
    Calls Tryz.prog 28 #[.pointer (some ⟨g0, 0, none⟩), .int .i64 below] w fun e w' => e = .returned (.int .i64 (retW W D nm below).2.2) ∧ Blk w' g0 80 ((retW W D nm below).1.cs gd nm) ∧ DkAt w' B gd (retW W D nm below).2.1 ∧ Lf B w w' := by
  have lf := Lf.refl B w
  have hB := dk.size
  obtain ⟨num, count, size, broken⟩ := W
  simp only at hn
  unfold Wl.cs at k0
  simp only at k0
  unfold retW
  simp only
  refine Calls.start 53 Tryz.func28 rfl rfl rfl ?_
  refine Cd.seq ?_
  refine Cd.region ?_
  refine Seq.val (Runs.assign rfl rfl) rfl rfl rfl ?_
  refine Seq.nil ?_
  refine Post.weak (F' := [(0, _), (1, _), (4, _)]) ⟨rfl, rfl, rfl, trivial⟩ ?_
  refine Post.then_ ?_
  refine Cd.seq ?_
  refine Cd.block ?_
  refine Cd.seq ?_
  refine Cd.region ?_
  refine Seq.val (Runs.move rfl rfl) rfl rfl rfl ?_
  refine Seq.val (Runs.eqlP rfl rfl rfl Tryz.underlying28) rfl rfl rfl ?_
  refine Seq.val (Runs.assign rfl rfl) rfl rfl rfl ?_
  refine Seq.nil ?_
  refine Post.weak (F' := [(0, _), (1, _), (4, _), (10, _)]) ⟨rfl, rfl, rfl, rfl, trivial⟩ ?_
  refine Post.then_ ?_
  refine Cd.condF rfl rfl ?_
  refine Cd.seq ?_
  refine Cd.region ?_
  refine Seq.val (Runs.move rfl rfl) rfl rfl rfl ?_
  refine Seq.val (Runs.nilCheck rfl rfl) rfl rfl rfl ?_
  refine Seq.val (Runs.fieldB 5 rfl rfl Tryz.underlying80 rfl (by kernel_rfl)) rfl rfl rfl ?_
  refine Seq.val (Runs.loadB rfl rfl Tryz.underlying4 rfl k0 rfl) rfl rfl rfl ?_
  refine Seq.val (Runs.assign rfl rfl) rfl rfl rfl ?_
  refine Seq.nil ?_
  refine Post.weak (F' := [(0, _), (1, _), (4, _), (10, _), (13, _)]) ⟨rfl, rfl, rfl, rfl, rfl, trivial⟩ ?_
  refine Post.then_ ?_
  refine Cd.cond rfl (fun h => ?_) (fun h => ?_)
  · have h : broken = true := h
    subst h
    rw [if_pos rfl]
    refine Cd.seq ?_
    refine Cd.region ?_
    refine Seq.val (Runs.assign rfl rfl) rfl rfl rfl ?_
    refine Seq.nil ?_
    refine Post.weak (F' := [(0, _), (1, _), (4, _), (10, _), (13, _)]) ⟨rfl, rfl, rfl, rfl, rfl, trivial⟩ ?_
    refine Post.then_ ?_
    refine Cd.ret ?_
    refine Post.block_ret ?_
    refine Post.then_ret ?_
    refine Post.end1 rfl rfl (.inl rfl) ?_
    exact ⟨rfl, k0, dk, lf⟩
  have h : broken = false := h
  subst h
  rw [if_neg (by simp)]
  refine Cd.skip ?_
  refine Post.block_normal ?_
  refine Post.then_ ?_
  refine Cd.seq ?_
  refine Cd.seq ?_
  refine Cd.region ?_
  refine Seq.val (Runs.move rfl rfl) rfl rfl rfl ?_
  refine Seq.call (Enters.func rfl rfl rfl (run_enter Tryz.func37 (by kernel_rfl) rfl)) rfl rfl rfl (numbers_any B g0 gd D nm (num : Int) (count : Int) (size : Int) false _ gv k0 dk hnm hnl hown) ?_
  rintro e w7 ⟨v19, ns, rfl, hinc, hmem, ownN, hb7⟩
  refine ⟨_, rfl, ?_⟩
  have hns : ns = numsL nm (D.files.map (·.1)) := inc_eq hinc numsL_inc (fun n => by rw [hmem, numsL_mem])
  have hnsl := numsL_len (nm := nm) (names := D.files.map (·.1))
  rw [← hns] at hnsl
  rw [← hns]
  clear hinc hns
  replace ownN := ownN.mono lf.size
  replace lf := lf.step hb7
  replace dk := dk.step hb7
  replace k0 := k0.step hb7
  replace gv := gv.step hb7
  obtain ⟨A, c, rfl, -⟩ := ownN.reads
  obtain ⟨R, hR⟩ : ∃ R, R = retGo nm (min below (num : Int)) ns D := ⟨_, rfl⟩
  rw [← hR]
  refine Seq.val (Runs.len rfl rfl Tryz.underlying81) rfl rfl rfl ?_
  refine Seq.val (Runs.move rfl rfl) rfl rfl rfl ?_
  refine Seq.nil ?_
  refine Post.weak (F' := [(0, _), (1, _), (4, _), (10, _), (13, _), (19, _), (20, _), (21, _)]) ⟨rfl, rfl, rfl, rfl, rfl, rfl, rfl, rfl, trivial⟩ ?_
  refine Post.then_ ?_
  refine Cd.block ?_
  refine Cd.loop (σ := Nat × Dk) (fun q => [(0, .pointer (some ⟨g0, 0, none⟩)), (1, .int .i64 below), (19, .slice A ns.length c), (20, .int .i64 (ns.length : Int)), (21, .int .i64 (q.1 : Int))]) (fun q wr => q.1 ≤ ns.length ∧ R = retGo nm (min below (num : Int)) (ns.drop q.1) q.2 ∧ DkAt wr B gd q.2 ∧ Lf B w wr ∧ Gv wr ∧ Blk wr g0 80 (wlCs gd nm (num : Int) (count : Int) (size : Int) false) ∧ Own wr w.heap.size 3 1 (.slice A ns.length c) ns.length (ns.map fun (n : Nat) => Value.int .i64 (n : Int))) (fun q => ns.length - q.1) (0, D) ⟨Nat.zero_le _, hR, dk, lf, gv, k0, ownN⟩ ⟨rfl, rfl, rfl, rfl, rfl, trivial⟩ ?_
  clear dk lf gv k0 ownN hR
  rintro ⟨i, D'⟩ wr ⟨hi, hR, dk, lf, gv, k0, ownN⟩
  simp only at hi hR dk
  show Cd _ _ _ _ [(0, .pointer (some ⟨g0, 0, none⟩)), (1, .int .i64 below), (19, .slice A ns.length c), (20, .int .i64 (ns.length : Int)), (21, .int .i64 (i : Int))] _
  refine Cd.seq ?_
  refine Cd.region ?_
  refine Seq.val (Runs.lss rfl rfl rfl) rfl rfl rfl ?_
  refine Seq.nil ?_
  refine Post.weak (F' := [(0, _), (1, _), (19, _), (20, _), (21, _), (22, _)]) ⟨rfl, rfl, rfl, rfl, rfl, rfl, trivial⟩ ?_
  refine Post.then_ ?_
  refine Cd.seq ?_
  refine Cd.condD rfl (fun hc => ?_) (fun hc => ?_)
  · obtain ⟨n, hn1⟩ : ∃ n, ns[i]? = some n := ⟨_, List.getElem?_eq_getElem (by omega)⟩
    have hn6 : n ≤ 999999 := ((hmem n).1 (List.mem_of_getElem? hn1)).1
    rw [drop_head hn1, retGo] at hR
    obtain ⟨A', c', hv, hrd⟩ := ownN.reads
    injection hv with e1 _ e2
    subst e1 e2
    obtain ⟨ad, rfl, -, hcl⟩ := hrd.2 (by omega)
    have hcd := hcl i (.int .i64 (n : Int)) (by rw [List.getElem?_map, hn1]; rfl)
    clear hrd hcl
    refine Cd.skip ?_
    refine Post.then_ ?_
    refine Cd.seq ?_
    refine Cd.block ?_
    refine Cd.seq ?_
    refine Cd.region ?_
    refine Seq.val (Runs.index1 rfl rfl rfl Tryz.underlying81 (by kernel_rfl) (j := i) rfl (by omega)) rfl rfl rfl ?_
    refine Seq.val (Runs.load1 rfl rfl Tryz.underlying3 rfl hcd) rfl rfl rfl ?_
    refine Seq.val (Runs.assign rfl rfl) rfl rfl rfl ?_
    refine Seq.nil ?_
    refine Post.weak (F' := [(0, _), (1, _), (6, _), (19, _), (20, _), (21, _), (22, _)]) ⟨rfl, rfl, rfl, rfl, rfl, rfl, rfl, trivial⟩ ?_
    refine Post.then_ ?_
    refine Cd.seq ?_
    refine Cd.seq ?_
    refine Cd.region ?_
    refine Seq.val (Runs.move rfl rfl) rfl rfl rfl ?_
    refine Seq.val (Runs.move rfl rfl) rfl rfl rfl ?_
    refine Seq.val (Runs.move rfl rfl) rfl rfl rfl ?_
    refine Seq.val (Runs.nilCheck rfl rfl) rfl rfl rfl ?_
    refine Seq.val (Runs.fieldB 2 rfl rfl Tryz.underlying80 rfl (by kernel_rfl)) rfl rfl rfl ?_
    refine Seq.val (Runs.loadB rfl rfl Tryz.underlying3 rfl k0 rfl) rfl rfl rfl ?_
    refine Seq.val (Runs.min2 rfl rfl rfl) rfl rfl rfl ?_
    refine Seq.val (Runs.geq rfl rfl rfl) rfl rfl rfl ?_
    refine Seq.nil ?_
    refine Post.weak (F' := [(0, _), (1, _), (6, _), (19, _), (20, _), (21, _), (22, _), (32, _)]) ⟨rfl, rfl, rfl, rfl, rfl, rfl, rfl, rfl, trivial⟩ ?_
    refine Post.then_ ?_
    refine Cd.cond rfl (fun h => ?_) (fun h => ?_)
    · have h : min below (num : Int) ≤ (n : Int) := by simpa using h
      rw [if_pos h] at hR
      subst hR
      refine Cd.exit ?_
      refine Post.then_exit ?_
      refine Post.block_other rfl ?_
      refine Post.then_exit ?_
      refine Post.round_exit ?_
      refine Post.block_exit ?_
      refine Post.then_ ?_
      refine Cd.seq ?_
      refine Cd.region ?_
      refine Seq.val (Runs.assign rfl rfl) rfl rfl rfl ?_
      refine Seq.nil ?_
      refine Post.weak (F' := [(0, _), (1, _), (4, _), (6, _), (19, _), (20, _), (21, _), (22, _), (32, _)]) ⟨rfl, rfl, rfl, rfl, rfl, rfl, rfl, rfl, rfl, trivial⟩ ?_
      refine Post.then_ ?_
      refine Cd.ret ?_
      refine Post.end1 rfl rfl (.inl rfl) ?_
      exact ⟨rfl, k0, dk, lf⟩
    have h : ¬ (min below (num : Int) ≤ (n : Int)) := by simpa using h
    rw [if_neg h] at hR
    replace hR : R = remR nm n (min below (num : Int)) (ns.drop (i + 1)) 2 D' := hR
    refine Cd.skip ?_
    refine Post.then_ ?_
    refine Cd.seq ?_
    refine Cd.region ?_
    refine Seq.slice (vs := [_, _]) (s := 1) rfl rfl rfl Tryz.underlying22 (by kernel_rfl) (zero_string) (by omega) (by omega) ⟨rfl, rfl, trivial⟩ rfl rfl rfl ?_
    intro g33 w1 n33
    have l33 := Nat.lt_of_lt_of_le k0.lt n33.ge
    replace lf := lf.step n33.below
    replace dk := dk.step n33.below
    replace gv := gv.step n33.below
    replace k0 := k0.step n33.below
    replace ownN := ownN.step n33.below
    have k33 := n33.blk
    refine Seq.val (Runs.len rfl rfl Tryz.underlying22) rfl rfl rfl ?_
    refine Seq.val (Runs.move rfl rfl) rfl rfl rfl ?_
    refine Seq.nil ?_
    refine Post.weak (F' := [(0, _), (1, _), (6, _), (19, _), (20, _), (21, _), (22, _), (32, _), (33, _), (34, _), (35, _)]) ⟨rfl, rfl, rfl, rfl, rfl, rfl, rfl, rfl, rfl, rfl, rfl, trivial⟩ ?_
    refine Post.then_ ?_
    refine Cd.block ?_
    have hsz := lf.size
    refine Cd.loop (σ := Nat × Dk) (fun q => [(0, .pointer (some ⟨g0, 0, none⟩)), (1, .int .i64 below), (6, .int .i64 (n : Int)), (19, .slice (some ad) ns.length c), (20, .int .i64 (ns.length : Int)), (21, .int .i64 (i : Int)), (33, .slice (some ⟨g33, 0, none⟩) 2 2), (34, .int .i64 2), (35, .int .i64 (q.1 : Int))]) (fun q wr => q.1 ≤ 2 ∧ R = remR nm n (min below (num : Int)) (ns.drop (i + 1)) (2 - q.1) q.2 ∧ DkAt wr B gd q.2 ∧ Lf B w wr ∧ Gv wr ∧ Blk wr g0 80 (wlCs gd nm (num : Int) (count : Int) (size : Int) false) ∧ Own wr w.heap.size 3 1 (.slice (some ad) ns.length c) ns.length (ns.map fun (n : Nat) => Value.int .i64 (n : Int)) ∧ Blk wr g33 9 (Ts [ackK, logK]).toArray) (fun q => 2 - q.1) (0, D') ⟨by omega, hR, dk, lf, gv, k0, ownN, k33⟩ ⟨rfl, rfl, rfl, rfl, rfl, rfl, rfl, rfl, rfl, trivial⟩ ?_
    clear dk lf gv k0 ownN k33 hR
    rintro ⟨j, D''⟩ wr2 ⟨hj, hR, dk, lf, gv, k0, ownN, k33⟩
    simp only at hj hR dk
    show Cd _ _ _ _ [(0, .pointer (some ⟨g0, 0, none⟩)), (1, .int .i64 below), (6, .int .i64 (n : Int)), (19, .slice (some ad) ns.length c), (20, .int .i64 (ns.length : Int)), (21, .int .i64 (i : Int)), (33, .slice (some ⟨g33, 0, none⟩) 2 2), (34, .int .i64 2), (35, .int .i64 (j : Int))] _
    refine Cd.seq ?_
    refine Cd.region ?_
    refine Seq.val (Runs.lss rfl rfl rfl) rfl rfl rfl ?_
    refine Seq.nil ?_
    refine Post.weak (F' := [(0, _), (1, _), (6, _), (19, _), (20, _), (21, _), (33, _), (34, _), (35, _), (36, _)]) ⟨rfl, rfl, rfl, rfl, rfl, rfl, rfl, rfl, rfl, rfl, trivial⟩ ?_
    refine Post.then_ ?_
    refine Cd.seq ?_
    refine Cd.condD rfl (fun hc => ?_) (fun hc => ?_)
    · have hkj : (Ts [ackK, logK]).toArray[j]? = some (.string (strOf (kindR j))) := by
        rcases (show j = 0 ∨ j = 1 by omega) with rfl | rfl <;> rfl
      rw [show 2 - j = (1 - j) + 1 by omega, remR, show 1 - (1 - j) = j by omega] at hR
      have hfb := fileN_byt n hnm (kindR_byt j)
      have hfl : (fileN nm n (kindR j)).length ≤ 1000 := by rw [fileN_len hn6, kindR_len]; omega
      have hkl := kindR_len j
      refine Cd.skip ?_
      refine Post.then_ ?_
      refine Cd.seq ?_
      refine Cd.block ?_
      refine Cd.seq ?_
      refine Cd.region ?_
      refine Seq.val (Runs.indexB rfl rfl rfl Tryz.underlying22 (by kernel_rfl) (j := j) rfl (by omega)) rfl rfl rfl ?_
      refine Seq.val (Runs.loadB rfl rfl Tryz.underlying9 rfl k33 hkj) rfl rfl rfl ?_
      refine Seq.val (Runs.assign rfl rfl) rfl rfl rfl ?_
      refine Seq.nil ?_
      refine Post.weak (F' := [(0, _), (1, _), (6, _), (8, _), (19, _), (20, _), (21, _), (33, _), (34, _), (35, _), (36, _)]) ⟨rfl, rfl, rfl, rfl, rfl, rfl, rfl, rfl, rfl, rfl, rfl, trivial⟩ ?_
      refine Post.then_ ?_
      refine Cd.seq ?_
      refine Cd.region ?_
      refine Seq.val (Runs.move rfl rfl) rfl rfl rfl ?_
      refine Seq.val (Runs.move rfl rfl) rfl rfl rfl ?_
      refine Seq.val (Runs.move rfl rfl) rfl rfl rfl ?_
      refine Seq.val (Runs.move rfl rfl) rfl rfl rfl ?_
      refine Seq.call (Enters.func rfl rfl rfl (run_enter Tryz.func50 (by kernel_rfl) rfl)) rfl rfl rfl (file_any g0 gd n nm (kindR j) (num : Int) (count : Int) (size : Int) false _ gv k0 hn6 (by omega) (by omega)) ?_
      rintro e w9 ⟨rfl, hb9⟩
      refine ⟨_, rfl, ?_⟩
      replace lf := lf.step hb9
      replace dk := dk.step hb9
      replace gv := gv.step hb9
      replace ownN := ownN.step hb9
      replace k0 := k0.step hb9
      replace k33 := k33.step hb9
      obtain ⟨x, hx⟩ : ∃ x, x = fileN nm n (kindR j) := ⟨_, rfl⟩
      rw [← hx] at hfb hfl hR
      rw [← hx]
      refine Seq.call (Enters.func rfl rfl rfl (run_enter Tryz.func49 (by kernel_rfl) rfl)) rfl rfl rfl (wdrop_any B g0 gd D'' nm x (num : Int) (count : Int) (size : Int) false _ k0 dk hfb hfl) ?_
      clear dk
      rintro e w2 ⟨rfl, dk, fw2⟩
      refine ⟨_, rfl, ?_⟩
      replace lf := lf.df fw2
      replace gv := gv.df fw2
      replace ownN := ownN.df fw2
      replace k0 := k0.df fw2
      replace k33 := k33.df fw2
      refine Seq.val (Runs.assign rfl rfl) rfl rfl rfl ?_
      refine Seq.nil ?_
      refine Post.weak (F' := [(0, _), (1, _), (6, _), (8, _), (9, _), (19, _), (20, _), (21, _), (33, _), (34, _), (35, _), (36, _)]) ⟨rfl, rfl, rfl, rfl, rfl, rfl, rfl, rfl, rfl, rfl, rfl, rfl, trivial⟩ ?_
      refine Post.then_ ?_
      refine Cd.seq ?_
      refine Cd.region ?_
      refine Seq.val (Runs.move rfl rfl) rfl rfl rfl ?_
      refine Seq.val (Runs.neqI rfl rfl rfl) rfl rfl rfl ?_
      refine Seq.nil ?_
      refine Post.weak (F' := [(0, _), (1, _), (6, _), (8, _), (9, _), (19, _), (20, _), (21, _), (33, _), (34, _), (35, _), (36, _), (46, _)]) ⟨rfl, rfl, rfl, rfl, rfl, rfl, rfl, rfl, rfl, rfl, rfl, rfl, rfl, trivial⟩ ?_
      refine Post.then_ ?_
      refine Cd.cond rfl (fun h => ?_) (fun h => ?_)
      · have h : D''.dropE x ≠ 0 := by simpa using h
        rw [if_pos h] at hR
        subst hR
        simp only
        rw [if_pos h]
        refine Cd.seq ?_
        refine Cd.region ?_
        refine Seq.val (Runs.move rfl rfl) rfl rfl rfl ?_
        refine Seq.val (Runs.nilCheck rfl rfl) rfl rfl rfl ?_
        refine Seq.val (Runs.fieldB 5 rfl rfl Tryz.underlying80 rfl (by kernel_rfl)) rfl rfl rfl ?_
        refine Seq.store1 rfl rfl rfl (by kernel_rfl) rfl rfl k0 rfl rfl rfl ?_
        intro w3 pw3
        replace lf := lf.put k0 pw3 e0
        replace dk := dk.put k0 pw3 e0
        replace gv := gv.put k0 pw3 e0
        replace ownN := ownN.put k0 pw3 e0
        replace k33 := k33.put pw3 (by omega)
        replace k0 := pw3.blk
        refine Seq.nil ?_
        refine Post.weak (F' := [(0, _), (1, _), (6, _), (8, _), (9, _), (19, _), (20, _), (21, _), (33, _), (34, _), (35, _), (36, _), (46, _)]) ⟨rfl, rfl, rfl, rfl, rfl, rfl, rfl, rfl, rfl, rfl, rfl, rfl, rfl, trivial⟩ ?_
        refine Post.then_ ?_
        refine Cd.seq ?_
        refine Cd.region ?_
        refine Seq.val (Runs.move rfl rfl) rfl rfl rfl ?_
        refine Seq.val (Runs.assign rfl rfl) rfl rfl rfl ?_
        refine Seq.nil ?_
        refine Post.weak (F' := [(0, _), (1, _), (4, _), (6, _), (8, _), (9, _), (19, _), (20, _), (21, _), (33, _), (34, _), (35, _), (36, _), (46, _)]) ⟨rfl, rfl, rfl, rfl, rfl, rfl, rfl, rfl, rfl, rfl, rfl, rfl, rfl, rfl, trivial⟩ ?_
        refine Post.then_ ?_
        refine Cd.ret ?_
        refine Post.block_ret ?_
        refine Post.then_ret ?_
        refine Post.round_ret ?_
        refine Post.block_ret ?_
        refine Post.block_ret ?_
        refine Post.then_ret ?_
        refine Post.round_ret ?_
        refine Post.block_ret ?_
        refine Post.then_ret ?_
        refine Post.end1 rfl rfl (.inl rfl) ?_
        exact ⟨rfl, k0, dk, lf⟩
      have h : ¬ (D''.dropE x ≠ 0) := by simpa using h
      rw [if_neg h] at hR
      refine Cd.skip ?_
      refine Post.block_normal ?_
      refine Post.then_ ?_
      refine Cd.region ?_
      refine Seq.val (Runs.addI rfl rfl rfl (by omega) (by omega)) rfl rfl rfl ?_
      refine Seq.val (Runs.move rfl rfl) rfl rfl rfl ?_
      refine Seq.nil ?_
      refine Post.weak (F' := [(0, _), (1, _), (6, _), (8, _), (9, _), (19, _), (20, _), (21, _), (33, _), (34, _), (35, _), (36, _), (46, _)]) ⟨rfl, rfl, rfl, rfl, rfl, rfl, rfl, rfl, rfl, rfl, rfl, rfl, rfl, trivial⟩ ?_
      exact Post.round (j + 1, D''.delete x) ⟨rfl, rfl, rfl, rfl, rfl, rfl, rfl, rfl, int_at (by omega), trivial⟩ ⟨by simp only; omega, by simp only; rw [show 2 - (j + 1) = 1 - j by omega]; exact hR, dk, lf, gv, k0, ownN, k33⟩ (by simp only; omega)
    · obtain rfl : j = 2 := by omega
      refine Cd.exit ?_
      refine Post.then_exit ?_
      refine Post.round_exit ?_
      refine Post.block_exit ?_
      refine Post.block_normal ?_
      refine Post.then_ ?_
      refine Cd.region ?_
      refine Seq.val (Runs.addI rfl rfl rfl (by omega) (by omega)) rfl rfl rfl ?_
      refine Seq.val (Runs.move rfl rfl) rfl rfl rfl ?_
      refine Seq.nil ?_
      refine Post.weak (F' := [(0, _), (1, _), (6, _), (19, _), (20, _), (21, _), (33, _), (34, _), (35, _), (36, _)]) ⟨rfl, rfl, rfl, rfl, rfl, rfl, rfl, rfl, rfl, rfl, trivial⟩ ?_
      exact Post.round (i + 1, D'') ⟨rfl, rfl, rfl, rfl, int_at (by omega), trivial⟩ ⟨by simp only; omega, hR, dk, lf, gv, k0, ownN⟩ (by simp only; omega)
  · obtain rfl : i = ns.length := by omega
    rw [List.drop_length, retGo] at hR
    subst hR
    refine Cd.exit ?_
    refine Post.then_exit ?_
    refine Post.round_exit ?_
    refine Post.block_exit ?_
    refine Post.then_ ?_
    refine Cd.seq ?_
    refine Cd.region ?_
    refine Seq.val (Runs.assign rfl rfl) rfl rfl rfl ?_
    refine Seq.nil ?_
    refine Post.weak (F' := [(0, _), (1, _), (4, _), (19, _), (20, _), (21, _), (22, _)]) ⟨rfl, rfl, rfl, rfl, rfl, rfl, rfl, trivial⟩ ?_
    refine Post.then_ ?_
    refine Cd.ret ?_
    refine Post.end1 rfl rfl (.inl rfl) ?_
    exact ⟨rfl, k0, dk, lf⟩
end Go.Proofs.YtnlepoplncjliaaGreatDoor

namespace Go.Proofs.YtnlepoplncjliaaGreatDoor
open Go.RowKit

theorem addr_add2 (ad : Addr) (a b : Nat) : (ad.add a).add b = ad.add (a + b) := by
  unfold Addr.add
  by_cases ha : a = 0
  · subst ha; simp
  · by_cases hb : b = 0
    · subst hb; simp [ha]
    · simp [ha, hb, Nat.add_assoc]
theorem recsV_at {l : List (Nat × List Nat)} {i : Nat} {r : Nat × List Nat} (h : l[i]? = some r) : ∀ (j : Nat) (v : Value), (recV r)[j]? = some v → (recsV l)[i * 2 + j]? = some v := by
  intro j v hj
  have hj2 : j < 2 := (List.getElem?_eq_some_iff.1 hj).1
  induction l generalizing i with
  | nil => cases h
  | cons x l ih =>
    have e : recsV (x :: l) = recV x ++ recsV l := by simp [recsV]
    have hx : (recV x).length = 2 := rfl
    cases i with
    | zero =>
      injection h with h
      subst h
      rw [e, Nat.zero_mul, Nat.zero_add, List.getElem?_append_left (by omega)]
      exact hj
    | succ i =>
      rw [e, List.getElem?_append_right (by omega)]
      have := ih (i := i) (by simpa using h)
      rw [show (i + 1) * 2 + j - (recV x).length = i * 2 + j by omega]
      exact this
theorem Reads.rec {w wr : World} {B n i : Nat} {A : Option Addr} {l : List (Nat × List Nat)} {r : Nat × List Nat} (h : Reads w B 2 A n (recsV l)) (hb : Below B w wr) (hf : l[i]? = some r) : ∃ ad, A = some ad ∧ ad.block < B ∧ i < n ∧ ∀ (j : Nat) (v : Value), (recV r)[j]? = some v → wr.cell? ((ad.add (i * 2)).add j) = some v := by
  have hl := h.1
  rw [recsV_len] at hl
  have hi := (List.getElem?_eq_some_iff.1 hf).1
  have hin : i < n := by omega
  obtain ⟨ad, rfl, hbl, hc⟩ := h.2 (by omega)
  exact ⟨ad, rfl, hbl, hin, fun j v hj => by
    rw [addr_add2]
    exact (hb.cell (by rw [block_of_add]; exact hbl)).trans (hc _ _ (recsV_at hf j v hj))⟩
theorem Reads.rec_len {w : World} {B n : Nat} {A : Option Addr} {l : List (Nat × List Nat)} (h : Reads w B 2 A n (recsV l)) : l.length = n := by
  have hl := h.1
  rw [recsV_len] at hl
  omega
/-- A record's value. -/
def recA (r : Nat × List Nat) : Value := .agg (recV r).toArray
theorem run_neq_rec (a b : Nat × List Nat) (w : World) : (binOp .neq 36 (recA a) (recA b)).run Tryz.prog w = .ok (.bool (!((a.1 : Int) == (b.1 : Int) && (strOf a.2).toList == (strOf b.2).toList))) w := by
  have hu := Tryz.underlying36
  unfold recA recV
  go_simp
  repeat' split
  all_goals simp_all
theorem run_eql_rec (a b : Nat × List Nat) (w : World) : (binOp .eql 36 (recA a) (recA b)).run Tryz.prog w = .ok (.bool ((a.1 : Int) == (b.1 : Int) && (strOf a.2).toList == (strOf b.2).toList)) w := by
  have hu := Tryz.underlying36
  unfold recA recV
  go_simp
  repeat' split
  all_goals simp_all
theorem guard_rec (op : BinOp) (x y : Operand) (a b : Array Value) (w : World) : (eqGuard op 36 x y (.agg a) (.agg b)).run Tryz.prog w = .ok () w := by
  have h : Tryz.prog.eqGuardType Tryz.prog.depth 36 = false := by kernel_rfl
  cases op <;> simp [eqGuard, program, h, Sem.run_bind, Sem.run]
theorem same_rec {a b : Nat × List Nat} (ha : Byt a.2) (hb : Byt b.2) : ((a.1 : Int) == (b.1 : Int) && (strOf a.2).toList == (strOf b.2).toList) = decide (a = b) := by
  rw [strOf_beq ha hb, Bool.eq_iff_iff]
  cases a
  cases b
  simp
  intro _
  omega
section
variable {P : Program} {E : Operand → Option Value} {o : Oper} {w : World} {x : Operand} {T : TypeId}
/-- A struct, by its cells. -/
theorem Runs.loadCs {ad : Addr} {m : Nat} {ps : List Value} {d : TypeDesc} (ho : o.op = .load T x) (hx : E x = some (.pointer (some ad))) (hT : P.underlying T = some d) (hd : (match d with | .struct _ | .array _ _ => true | _ => false) = true) (hs : sizeIs P T m = true) (hm : ps.length = m) (hc : ∀ (j : Nat) (v : Value), ps[j]? = some v → w.cell? (ad.add j) = some v) : Runs P E o w (.agg ps.toArray) w := by
  obtain ⟨i, hi, hsz⟩ := sizeIs_spec hs
  exact .loadN (cs := ps) ho hx hT hd hi (by omega) hc
end
theorem same_any (A A' : Option Addr) (n c n' c' B : Nat) (l l' : List (Nat × List Nat)) (w : World) (hr : Reads w B 2 A n (recsV l)) (hr' : Reads w B 2 A' n' (recsV l')) (hB : B ≤ w.heap.size) (hb : ∀ r ∈ l, Byt r.2) (hb' : ∀ r ∈ l', Byt r.2) (hn : n ≤ 1000000000) (hn' : n' ≤ 1000000000) :
    Calls Tryz.prog 16 #[.slice A n c, .slice A' n' c'] w fun e w' => e = .returned (.bool (decide (l = l'))) ∧ Grow w w' := by
  have bel := Below.refl w.heap.size w
  have hl := hr.rec_len
  have hl' := hr'.rec_len
  refine Calls.start 26 Tryz.func16 rfl rfl rfl ?_
  refine Cd.seq ?_
  refine Cd.region ?_
  refine Seq.val (Runs.assign rfl rfl) rfl rfl rfl ?_
  refine Seq.nil ?_
  refine Post.weak (F' := [(0, _), (1, _), (4, _)]) ⟨rfl, rfl, rfl, trivial⟩ ?_
  refine Post.then_ ?_
  refine Cd.seq ?_
  refine Cd.seq ?_
  refine Cd.region ?_
  refine Seq.val (Runs.move rfl rfl) rfl rfl rfl ?_
  refine Seq.val (Runs.len rfl rfl Tryz.underlying29) rfl rfl rfl ?_
  refine Seq.val (Runs.move rfl rfl) rfl rfl rfl ?_
  refine Seq.val (Runs.len rfl rfl Tryz.underlying29) rfl rfl rfl ?_
  refine Seq.val (Runs.neqI rfl rfl rfl) rfl rfl rfl ?_
  refine Seq.nil ?_
  refine Post.weak (F' := [(0, _), (1, _), (4, _), (10, _)]) ⟨rfl, rfl, rfl, rfl, trivial⟩ ?_
  refine Post.then_ ?_
  refine Cd.cond rfl (fun h => ?_) (fun h => ?_)
  · have h : (n : Int) ≠ (n' : Int) := by simpa using h
    have hne : l ≠ l' := fun e => by rw [e] at hl; omega
    rw [decide_eq_false hne]
    refine Cd.seq ?_
    refine Cd.region ?_
    refine Seq.val (Runs.assign rfl rfl) rfl rfl rfl ?_
    refine Seq.nil ?_
    refine Post.weak (F' := [(0, _), (1, _), (4, _), (10, _)]) ⟨rfl, rfl, rfl, rfl, trivial⟩ ?_
    refine Post.then_ ?_
    refine Cd.ret ?_
    refine Post.then_ret ?_
    refine Post.end1 rfl rfl (.inl rfl) ?_
    exact ⟨rfl, bel⟩
  have h : (n : Int) = (n' : Int) := by simpa using h
  obtain rfl : n = n' := by omega
  refine Cd.skip ?_
  refine Post.then_ ?_
  refine Cd.seq ?_
  refine Cd.seq ?_
  refine Cd.region ?_
  refine Seq.val (Runs.assign rfl rfl) rfl rfl rfl ?_
  refine Seq.nil ?_
  refine Post.weak (F' := [(0, _), (1, _), (4, _), (5, _), (10, _)]) ⟨rfl, rfl, rfl, rfl, rfl, trivial⟩ ?_
  refine Post.then_ ?_
  refine Cd.block ?_
  refine Cd.loop (σ := Nat) (fun j => [(0, .slice A n c), (1, .slice A' n c'), (5, .int .i64 (j : Int))]) (fun j wr => j ≤ n ∧ l.take j = l'.take j ∧ Below w.heap.size w wr) (fun j => n - j) 0 ⟨Nat.zero_le _, by simp, bel⟩ ⟨rfl, rfl, rfl, trivial⟩ ?_
  clear bel
  rintro j wr ⟨hj, heq, bel⟩
  refine Cd.seq ?_
  refine Cd.seq ?_
  refine Cd.region ?_
  refine Seq.val (Runs.move rfl rfl) rfl rfl rfl ?_
  refine Seq.val (Runs.move rfl rfl) rfl rfl rfl ?_
  refine Seq.val (Runs.len rfl rfl Tryz.underlying29) rfl rfl rfl ?_
  refine Seq.val (Runs.lss rfl rfl rfl) rfl rfl rfl ?_
  refine Seq.nil ?_
  refine Post.weak (F' := [(0, _), (1, _), (5, _), (14, _)]) ⟨rfl, rfl, rfl, rfl, trivial⟩ ?_
  refine Post.then_ ?_
  refine Cd.condD rfl (fun hc => ?_) (fun hc => ?_)
  · obtain ⟨r, hrj⟩ : ∃ r, l[j]? = some r := ⟨_, List.getElem?_eq_getElem (by omega)⟩
    obtain ⟨r', hrj'⟩ : ∃ r, l'[j]? = some r := ⟨_, List.getElem?_eq_getElem (by omega)⟩
    obtain ⟨ad, rfl, hbd, -, hcl⟩ := hr.rec (bel.mono hB) hrj
    obtain ⟨ad', rfl, hbd', -, hcl'⟩ := hr'.rec (bel.mono hB) hrj'
    have hneq := run_neq_rec r r'
    rw [same_rec (hb r (List.mem_of_getElem? hrj)) (hb' r' (List.mem_of_getElem? hrj'))] at hneq
    have hsz := bel.size
    refine Cd.skip ?_
    refine Post.then_ ?_
    refine Cd.seq ?_
    refine Cd.block ?_
    refine Cd.seq ?_
    refine Cd.draw 9 (by kernel_rfl) [] (.inl rfl) rfl Grow Grow.refl (fun _ _ _ => Grow.trans) ?_
    intro w1 hw1 zw1
    replace bel := bel.step hw1
    have zbel := bel.size
    refine Dr.val Grow.refl rfl (fun w hG => Runs.move rfl rfl) rfl ?_
    refine Dr.val Grow.refl rfl (fun w hG => Runs.move rfl rfl) rfl ?_
    refine Dr.val Grow.refl rfl (fun w hG => Runs.indexN rfl rfl rfl Tryz.underlying29 (s := 2) (by kernel_rfl) (j := j) rfl (by omega)) rfl ?_
    refine Dr.val Grow.refl rfl (fun w hG => Runs.loadCs rfl rfl Tryz.underlying36 rfl (m := 2) (ps := recV r) (by kernel_rfl) rfl (fun k v hk => (hG.cell (by rw [block_of_add, block_of_add]; omega)).trans ((hw1.cell (by rw [block_of_add, block_of_add]; omega)).trans (hcl k v hk)))) rfl ?_
    refine Dr.val Grow.refl rfl (fun w hG => Runs.move rfl rfl) rfl ?_
    refine Dr.val Grow.refl rfl (fun w hG => Runs.move rfl rfl) rfl ?_
    refine Dr.val Grow.refl rfl (fun w hG => Runs.indexN rfl rfl rfl Tryz.underlying29 (s := 2) (by kernel_rfl) (j := j) rfl (by omega)) rfl ?_
    refine Dr.val Grow.refl rfl (fun w hG => Runs.loadCs rfl rfl Tryz.underlying36 rfl (m := 2) (ps := recV r') (by kernel_rfl) rfl (fun k v hk => (hG.cell (by rw [block_of_add, block_of_add]; omega)).trans ((hw1.cell (by rw [block_of_add, block_of_add]; omega)).trans (hcl' k v hk)))) rfl ?_
    refine Dr.val Grow.refl rfl (fun w hG => Runs.bin rfl rfl rfl (guard_rec _ _ _ _ _ w) (hneq w)) rfl ?_
    refine FinX.done (F' := [(0, _), (1, _), (5, _), (14, _), (25, _)]) rfl ⟨rfl, rfl, rfl, rfl, rfl, trivial⟩ ?_
    intro w2 hw2 fw2
    replace bel := bel.step hw2
    refine Seq.nil ?_
    refine Post.weak (F' := [(0, _), (1, _), (5, _), (14, _), (25, _)]) ⟨rfl, rfl, rfl, rfl, rfl, trivial⟩ ?_
    refine Post.then_ ?_
    refine Cd.cond rfl (fun h => ?_) (fun h => ?_)
    · have h : r ≠ r' := by simpa using h
      have hne : l ≠ l' := fun e => by
        rw [e, hrj'] at hrj
        injection hrj with e2
        exact h e2.symm
      rw [decide_eq_false hne]
      refine Cd.seq ?_
      refine Cd.region ?_
      refine Seq.val (Runs.assign rfl rfl) rfl rfl rfl ?_
      refine Seq.nil ?_
      refine Post.weak (F' := [(0, _), (1, _), (4, _), (5, _), (14, _), (25, _)]) ⟨rfl, rfl, rfl, rfl, rfl, rfl, trivial⟩ ?_
      refine Post.then_ ?_
      refine Cd.ret ?_
      refine Post.block_ret ?_
      refine Post.then_ret ?_
      refine Post.round_ret ?_
      refine Post.block_ret ?_
      refine Post.then_ret ?_
      refine Post.end1 rfl rfl (.inl rfl) ?_
      exact ⟨rfl, bel⟩
    have h : r = r' := by simpa using h
    subst h
    refine Cd.skip ?_
    refine Post.block_normal ?_
    refine Post.then_ ?_
    refine Cd.region ?_
    refine Seq.val (Runs.move rfl rfl) rfl rfl rfl ?_
    refine Seq.val (Runs.addI rfl rfl rfl (by omega) (by omega)) rfl rfl rfl ?_
    refine Seq.val (Runs.assign rfl rfl) rfl rfl rfl ?_
    refine Seq.nil ?_
    refine Post.weak (F' := [(0, _), (1, _), (5, _), (14, _), (25, _)]) ⟨rfl, rfl, rfl, rfl, rfl, trivial⟩ ?_
    exact Post.round (j + 1) ⟨rfl, rfl, int_at (by omega), trivial⟩ ⟨by omega, by rw [take_last hrj, take_last hrj', heq], bel⟩ (by omega)
  · obtain rfl : j = n := by omega
    have he : l = l' := by rw [← List.take_length (l := l), ← List.take_length (l := l'), hl, hl']; exact heq
    rw [decide_eq_true he]
    refine Cd.exit ?_
    refine Post.then_exit ?_
    refine Post.round_exit ?_
    refine Post.block_exit ?_
    refine Post.then_ ?_
    refine Cd.seq ?_
    refine Cd.region ?_
    refine Seq.val (Runs.assign rfl rfl) rfl rfl rfl ?_
    refine Seq.nil ?_
    refine Post.weak (F' := [(0, _), (1, _), (4, _), (5, _), (14, _)]) ⟨rfl, rfl, rfl, rfl, rfl, trivial⟩ ?_
    refine Post.then_ ?_
    refine Cd.ret ?_
    refine Post.end1 rfl rfl (.inl rfl) ?_
    exact ⟨rfl, bel⟩
end Go.Proofs.YtnlepoplncjliaaGreatDoor

namespace Go.Proofs.YtnlepoplncjliaaGreatDoor
open Go.RowKit

theorem WlIs.rotated {D : Dk} {nm : List Nat} {W : Wl} {segs : List (Nat × List (List Nat))} (h : WlIs D nm W segs) : WlIs D nm W.rotate segs := by
  unfold Wl.rotate
  split
  · rename_i hc
    refine ⟨h.log, h.broken, .inl ⟨rfl, rfl, fun s hs => ?_⟩⟩
    show s.1 < W.num + 1
    rcases h.at_ with ⟨h1, -, -⟩ | ⟨ini, l, h1, h2, h3⟩
    · omega
    · rw [h1] at hs
      rcases List.mem_append.1 hs with hs | hs
      · have := h.log.inc
        rw [h1, List.map_append, List.pairwise_append] at this
        have := this.2.2 s.1 (List.mem_map.2 ⟨s, hs, rfl⟩) W.num (by simp)
        omega
      · simp at hs; subst hs; omega
  · exact h
theorem byt_one {c : Nat} (h : c < 256) : Byt [c] := by intro d hd; simp at hd; omega
theorem right_w : rightN [119] = true := by decide
theorem run_build_rec1 (s : List Nat) (w : World) : (Instr.build 36 #[(1, .string (strOf s))]).run Tryz.prog w = .ok (.agg #[.int .i64 0, .string (strOf s)]) w := by
  have hu := Tryz.underlying36
  go_simp
set_option maxHeartbeats 4000000 in
theorem awake_any (w : World) (gv : Gv w) : Calls Tryz.prog 11 #[] w fun e w' => e = .returned (.bool true) ∧ Grow w w' := by
  have lf := Lf.refl w.heap.size w
  have hgw := tab_lt gv.pow
  have hL0 : LogIs (Dk.new 1000) [119] [] := LogIs.nil
  have hO0 := hL0.opens
  have hnext : nextN 0 [] = 0 := rfl
  have hrec0 : recsOf [] = [] := rfl
  rw [hnext, hrec0] at hO0
  obtain ⟨D1, s1, hA1, hW1, hr1, hro1, hu1, hf1⟩ := WlIs.append (WlIs.opened hL0) (data := [97]) (by decide) (byt_one (by omega)) (by decide) (by decide) (by decide) (by decide) (by decide) (by decide)
  rw [hnext] at hA1 hW1 hr1
  rw [hrec0] at hr1
  have hW2 := hW1.rotated
  have hrot : (Wl.mk 0 (0 + 1) (0 + ([97].length + 12)) false).rotate = ⟨1, 0, 0, false⟩ := rfl
  rw [hrot] at hW2
  have hu0 : (Dk.new 1000).used = 0 := rfl
  have hro0 : (Dk.new 1000).room = 1000 := rfl
  have hf0 : (Dk.new 1000).files.length = 0 := rfl
  rw [hu0] at hu1
  rw [hro0] at hro1
  rw [hf0] at hf1
  obtain ⟨D2, s2, hA2, hW3, hr2, -, -, -⟩ := WlIs.append hW2 (data := [98]) (by decide) (byt_one (by omega)) (by decide) (by decide) (by decide) (by decide) (by omega) (by rw [hro1, hu1]; decide)
  rw [hr1] at hr2
  have hO2 := hW3.log.opens
  rw [hr2] at hO2
  generalize nextN 0 s2 = nx at hO2
  replace hA1 : appW ⟨0, 0, 0, false⟩ (Dk.new 1000) [119] [97] = (⟨0, 1, 13, false⟩, D1, 0) := hA1
  replace hA2 : appW ⟨1, 0, 0, false⟩ D1 [119] [98] = (⟨1, 1, 13, false⟩, D2, 0) := hA2
  replace hO2 : openW D2 [119] = (D2, 0, [(0, [97]), (1, [98])], nx) := hO2
  have hown2 := hW3.log.own_nm
  have hoff2 := hW3.log.calm.off
  clear hW1 hW2 hW3 hr1 hr2 hro1 hu1 hf1 hrot hu0 hro0 hf0 hnext hrec0
  refine Calls.start 69 Tryz.func11 rfl rfl rfl ?_
  refine Cd.seq ?_
  refine Cd.region ?_
  refine Seq.val (Runs.assign rfl rfl) rfl rfl rfl ?_
  refine Seq.nil ?_
  refine Post.weak (F' := [(0, _)]) ⟨rfl, trivial⟩ ?_
  refine Post.then_ ?_
  refine Cd.seq ?_
  refine Cd.region ?_
  refine Seq.call (Enters.func rfl rfl rfl (run_enter Tryz.func12 (by kernel_rfl) rfl)) rfl rfl rfl (new_any 1000 _ (by omega) (by omega)) ?_
  rintro e w5 ⟨gd, rfl, dk, hb5⟩
  refine ⟨_, rfl, ?_⟩
  replace lf := lf.step hb5
  replace gv := gv.step hb5
  refine Seq.val (Runs.assign rfl rfl) rfl rfl rfl ?_
  refine Seq.nil ?_
  refine Post.weak (F' := [(0, _), (1, _)]) ⟨rfl, rfl, trivial⟩ ?_
  refine Post.then_ ?_
  refine Cd.seq ?_
  refine Cd.region ?_
  refine Seq.val (Runs.move rfl rfl) rfl rfl rfl ?_
  refine Seq.call (Enters.func rfl rfl rfl (run_enter Tryz.func13 (by kernel_rfl) rfl)) rfl rfl rfl (open_any w.heap.size gd (Dk.new 1000) [119] _ gv hgw dk rfl right_w (byt_one (by omega)) hL0.own_nm) ?_
  clear dk
  rintro e w1 ⟨v1, v2, rfl, hO, dk, fw1⟩
  refine ⟨_, rfl, ?_⟩
  replace lf := lf.df fw1
  replace gv := gv.df fw1
  rw [hO0] at hO dk
  rw [hO0]
  rcases hO with ⟨h, -, -⟩ | ⟨-, g6, rfl, hg6, k6, own6⟩
  · exact absurd rfl h
  obtain ⟨A, c, rfl, -⟩ := own6.reads
  clear own6
  have e6 : w.heap.size ≤ g6 := Nat.le_trans hb5.size hg6
  replace k6 : Blk _ g6 80 (Wl.cs ⟨0, 0, 0, false⟩ gd [119]) := k6
  refine Seq.val (Runs.move rfl rfl) rfl rfl rfl ?_
  refine Seq.val (Runs.extract rfl rfl rfl) rfl rfl rfl ?_
  refine Seq.val (Runs.extract rfl rfl rfl) rfl rfl rfl ?_
  refine Seq.val (Runs.extract rfl rfl rfl) rfl rfl rfl ?_
  refine Seq.val (Runs.assign rfl rfl) rfl rfl rfl ?_
  refine Seq.val (Runs.assign rfl rfl) rfl rfl rfl ?_
  refine Seq.val (Runs.assign rfl rfl) rfl rfl rfl ?_
  refine Seq.nil ?_
  refine Post.weak (F' := [(0, _), (1, _), (2, _), (3, _), (4, _)]) ⟨rfl, rfl, rfl, rfl, rfl, trivial⟩ ?_
  refine Post.then_ ?_
  refine Cd.seq ?_
  refine Cd.seq ?_
  refine Cd.region ?_
  refine Seq.val (Runs.move rfl rfl) rfl rfl rfl ?_
  refine Seq.val (Runs.eqlP rfl rfl rfl Tryz.underlying26) rfl rfl rfl ?_
  refine Seq.val (Runs.move rfl rfl) rfl rfl rfl ?_
  refine Seq.valG (Runs.move rfl rfl) rfl rfl rfl rfl rfl ?_
  refine Seq.valG (Runs.eqlP rfl rfl rfl Tryz.underlying28) rfl rfl rfl rfl rfl ?_
  refine Seq.val (Runs.pickF rfl rfl rfl) rfl rfl rfl ?_
  refine Seq.val (Runs.move rfl rfl) rfl rfl rfl ?_
  refine Seq.valG (Runs.move rfl rfl) rfl rfl rfl rfl rfl ?_
  refine Seq.valG (Runs.neqI rfl rfl rfl) rfl rfl rfl rfl rfl ?_
  refine Seq.val (Runs.pickF rfl rfl rfl) rfl rfl rfl ?_
  refine Seq.val (Runs.move rfl rfl) rfl rfl rfl ?_
  refine Seq.valG (Runs.move rfl rfl) rfl rfl rfl rfl rfl ?_
  refine Seq.valG (Runs.len rfl rfl Tryz.underlying29) rfl rfl rfl rfl rfl ?_
  refine Seq.valG (Runs.neqI rfl rfl rfl) rfl rfl rfl rfl rfl ?_
  refine Seq.val (Runs.pickF rfl rfl rfl) rfl rfl rfl ?_
  refine Seq.val (Runs.move rfl rfl) rfl rfl rfl ?_
  refine Seq.valG (Runs.move rfl rfl) rfl rfl rfl rfl rfl ?_
  refine Seq.callG (Enters.func rfl rfl rfl (run_enter Tryz.func15 (by kernel_rfl) rfl)) rfl rfl rfl rfl rfl (append_w_any w.heap.size g6 gd (Dk.new 1000) [119] [97] ⟨0, 0, 0, false⟩ _ gv hgw e6 k6 dk (byt_one (by omega)) (by decide) (by decide) (by decide) (by decide) (byt_one (by omega)) (by decide)) ?_
  clear k6 dk
  rw [hA1]
  rintro e w7 ⟨rfl, k6, dk, f7⟩
  refine ⟨_, rfl, ?_⟩
  replace lf := lf.lf f7
  replace gv := gv.lf f7
  clear f7
  refine Seq.valG (Runs.neqI rfl rfl rfl) rfl rfl rfl rfl rfl ?_
  refine Seq.val (Runs.pickF rfl rfl rfl) rfl rfl rfl ?_
  refine Seq.val (Runs.move rfl rfl) rfl rfl rfl ?_
  refine Seq.valG (Runs.move rfl rfl) rfl rfl rfl rfl rfl ?_
  refine Seq.callG (Enters.func rfl rfl rfl (run_enter Tryz.func29 (by kernel_rfl) rfl)) rfl rfl rfl rfl rfl (rotate_any w.heap.size g6 gd D1 [119] ⟨0, 1, 13, false⟩ _ e6 lf.size k6 dk (by decide)) ?_
  clear k6 dk
  rintro e w8 ⟨rfl, k6, dk, f8⟩
  refine ⟨_, rfl, ?_⟩
  replace lf := lf.lf f8
  replace gv := gv.lf f8
  clear f8
  replace k6 : Blk _ g6 80 (Wl.cs ⟨1, 0, 0, false⟩ gd [119]) := k6
  refine Seq.valG (Runs.neqI rfl rfl rfl) rfl rfl rfl rfl rfl ?_
  refine Seq.val (Runs.pickF rfl rfl rfl) rfl rfl rfl ?_
  refine Seq.val (Runs.move rfl rfl) rfl rfl rfl ?_
  refine Seq.valG (Runs.move rfl rfl) rfl rfl rfl rfl rfl ?_
  refine Seq.callG (Enters.func rfl rfl rfl (run_enter Tryz.func15 (by kernel_rfl) rfl)) rfl rfl rfl rfl rfl (append_w_any w.heap.size g6 gd D1 [119] [98] ⟨1, 0, 0, false⟩ _ gv hgw e6 k6 dk (byt_one (by omega)) (by decide) (by decide) (by decide) (by decide) (byt_one (by omega)) (by decide)) ?_
  clear k6 dk
  rw [hA2]
  rintro e w9 ⟨rfl, k6, dk, f9⟩
  refine ⟨_, rfl, ?_⟩
  replace lf := lf.lf f9
  replace gv := gv.lf f9
  clear f9
  refine Seq.valG (Runs.neqI rfl rfl rfl) rfl rfl rfl rfl rfl ?_
  refine Seq.val (Runs.pickF rfl rfl rfl) rfl rfl rfl ?_
  refine Seq.nil ?_
  refine Post.weak (F' := [(0, _), (1, _), (2, _), (3, _), (4, _), (41, _)]) ⟨rfl, rfl, rfl, rfl, rfl, rfl, trivial⟩ ?_
  refine Post.then_ ?_
  refine Cd.condF rfl rfl ?_
  replace dk : DkAt w9 w.heap.size gd D2 := dk
  replace k6 : Blk w9 g6 80 (Wl.cs ⟨1, 1, 13, false⟩ gd [119]) := k6
  refine Cd.skip ?_
  refine Post.then_ ?_
  refine Cd.seq ?_
  refine Cd.region ?_
  refine Seq.val (Runs.move rfl rfl) rfl rfl rfl ?_
  refine Seq.call (Enters.func rfl rfl rfl (run_enter Tryz.func13 (by kernel_rfl) rfl)) rfl rfl rfl (open_any w.heap.size gd D2 [119] _ gv hgw dk hoff2 right_w (byt_one (by omega)) hown2) ?_
  clear dk
  rintro e w2 ⟨v1, v2, rfl, hO, dk, fw2⟩
  refine ⟨_, rfl, ?_⟩
  replace lf := lf.df fw2
  replace gv := gv.df fw2
  replace k6 := k6.df fw2
  rw [hO2] at hO dk
  rw [hO2]
  rcases hO with ⟨h, -, -⟩ | ⟨-, g16, rfl, -, -, own⟩
  · exact absurd rfl h
  obtain ⟨g3, cap, cur, rfl, -, k3, hcur⟩ := own.form (show 0 < 2 by decide)
  have hc0 : ∀ (j : Nat) (v : Value), (recV (0, [97]))[j]? = some v → cur[2 * 0 + j]? = some v := fun j v hj => hcur _ _ (by have := recsV_at (l := [(0, [97]), (1, [98])]) (i := 0) rfl j v hj; simpa using this)
  have hc1 : ∀ (j : Nat) (v : Value), (recV (1, [98]))[j]? = some v → cur[2 * 1 + j]? = some v := fun j v hj => hcur _ _ (by have := recsV_at (l := [(0, [97]), (1, [98])]) (i := 1) rfl j v hj; simpa using this)
  have heq0 := run_eql_rec (0, [97]) (0, [97])
  have heq1 := run_eql_rec (1, [98]) (1, [98])
  rw [same_rec (byt_one (by omega)) (byt_one (by omega)), decide_eq_true rfl] at heq0 heq1
  refine Seq.val (Runs.move rfl rfl) rfl rfl rfl ?_
  refine Seq.val (Runs.extract rfl rfl rfl) rfl rfl rfl ?_
  refine Seq.val (Runs.extract rfl rfl rfl) rfl rfl rfl ?_
  refine Seq.val (Runs.extract rfl rfl rfl) rfl rfl rfl ?_
  refine Seq.val (Runs.assign rfl rfl) rfl rfl rfl ?_
  refine Seq.val (Runs.assign rfl rfl) rfl rfl rfl ?_
  refine Seq.nil ?_
  refine Post.weak (F' := [(0, _), (1, _), (2, _), (3, _), (4, _), (41, _)]) ⟨rfl, rfl, rfl, rfl, rfl, rfl, trivial⟩ ?_
  refine Post.then_ ?_
  refine Cd.seq ?_
  refine Cd.region ?_
  refine Seq.val (Runs.move rfl rfl) rfl rfl rfl ?_
  refine Seq.val (Runs.eqlI rfl rfl rfl) rfl rfl rfl ?_
  refine Seq.val (Runs.move rfl rfl) rfl rfl rfl ?_
  refine Seq.valG (Runs.move rfl rfl) rfl rfl rfl rfl rfl ?_
  refine Seq.valG (Runs.len rfl rfl Tryz.underlying29) rfl rfl rfl rfl rfl ?_
  refine Seq.valG (Runs.eqlI rfl rfl rfl) rfl rfl rfl rfl rfl ?_
  refine Seq.val (Runs.pickT rfl rfl rfl) rfl rfl rfl ?_
  refine Seq.val (Runs.move rfl rfl) rfl rfl rfl ?_
  refine Seq.valG (Runs.move rfl rfl) rfl rfl rfl rfl rfl ?_
  refine Seq.valG (Runs.indexBN rfl rfl rfl Tryz.underlying29 (s := 2) (by kernel_rfl) (j := 0) rfl (show 0 < 2 by decide)) rfl rfl rfl rfl rfl ?_
  refine Seq.valG (Runs.loadP rfl rfl Tryz.underlying36 rfl k3 (m := 2) (ps := recV (0, [97])) (by kernel_rfl) rfl hc0) rfl rfl rfl rfl rfl ?_
  refine Seq.valG (Runs.build rfl rfl (run_build_rec1 [97] _)) rfl rfl rfl rfl rfl ?_
  refine Seq.valG (Runs.bin rfl rfl rfl (guard_rec _ _ _ _ _ _) (heq0 _)) rfl rfl rfl rfl rfl ?_
  refine Seq.val (Runs.pickT rfl rfl rfl) rfl rfl rfl ?_
  refine Seq.val (Runs.move rfl rfl) rfl rfl rfl ?_
  refine Seq.valG (Runs.move rfl rfl) rfl rfl rfl rfl rfl ?_
  refine Seq.valG (Runs.indexBN rfl rfl rfl Tryz.underlying29 (s := 2) (by kernel_rfl) (j := 1) rfl (show 1 < 2 by decide)) rfl rfl rfl rfl rfl ?_
  refine Seq.valG (Runs.loadP rfl rfl Tryz.underlying36 rfl k3 (m := 2) (ps := recV (1, [98])) (by kernel_rfl) rfl hc1) rfl rfl rfl rfl rfl ?_
  refine Seq.valG (Runs.build rfl rfl (run_build_rec 1 [98] _)) rfl rfl rfl rfl rfl ?_
  refine Seq.valG (Runs.bin rfl rfl rfl (guard_rec _ _ _ _ _ _) (heq1 _)) rfl rfl rfl rfl rfl ?_
  refine Seq.val (Runs.pickT rfl rfl rfl) rfl rfl rfl ?_
  refine Seq.val (Runs.assign rfl rfl) rfl rfl rfl ?_
  refine Seq.nil ?_
  refine Post.weak (F' := [(0, _), (1, _), (2, _), (3, _), (4, _), (41, _)]) ⟨rfl, rfl, rfl, rfl, rfl, rfl, trivial⟩ ?_
  refine Post.then_ ?_
  refine Cd.ret ?_
  refine Post.end1 rfl rfl (.inl rfl) ?_
  exact ⟨rfl, lf.to (Nat.le_refl _)⟩
end Go.Proofs.YtnlepoplncjliaaGreatDoor

namespace Go.Proofs.YtnlepoplncjliaaGreatDoor
open Go.RowKit

theorem wipe_get (D : Dk) (x y : List Nat) : (D.wipe x).get y = if y = x then none else D.get y := by
  unfold Dk.get Dk.wipe
  show ((D.files.filter fun p => decide (p.1 ≠ x)).find? (fun p => decide (p.1 = y))).map (fun (p : List Nat × Fil) => p.2) = _
  rw [List.find?_filter]
  by_cases e : y = x
  · rw [if_pos e]
    have : D.files.find? (fun a => decide (decide (a.1 ≠ x) = true ∧ decide (a.1 = y) = true)) = none := by
      rw [List.find?_eq_none]
      intro p _
      simp
      intro h1 h2
      exact h1 (h2.trans e)
    rw [this]
    rfl
  · rw [if_neg e]
    congr 2
    funext p
    by_cases h : p.1 = y
    · simp [h, e]
    · simp [h]
theorem del_calm {D : Dk} {x : List Nat} (hc : D.calm) (hn : (D.files.map (·.1)).Nodup) (hx : nameOk x = true) :
    D.dropE x = 0 ∧ (D.delete x).calm ∧ ((D.delete x).files.map (·.1)).Nodup ∧ (D.delete x).room = D.room ∧ (D.delete x).used ≤ D.used ∧ (D.delete x).files.length ≤ D.files.length ∧ ∀ y, (D.delete x).get y = if y = x then none else D.get y := by
  have hE := thereE_calm hc (ns := [x]) (by simpa using hx) x
  have ht := tick_calm hc
  unfold Dk.dropE Dk.delete
  by_cases h : (D.get x).isSome = true
  · rw [if_pos h] at hE
    rw [hE, if_neg (by decide), if_pos rfl, ht]
    have hu := wipe_used (nm := x) hn
    exact ⟨rfl, ⟨hc.off, hc.armed⟩, hn.sublist (List.Sublist.map _ List.filter_sublist), rfl, by omega, List.length_filter_le _ _, wipe_get D x⟩
  · rw [if_neg h] at hE
    rw [hE, if_pos rfl, if_neg (by decide), ht]
    refine ⟨rfl, hc, hn, rfl, Int.le_refl _, Nat.le_refl _, fun y => ?_⟩
    by_cases e : y = x
    · subst e
      rw [if_pos rfl]
      simpa using h
    · rw [if_neg e]
theorem name_ok {nm k : List Nat} {n : Nat} (hnl : nm.length ≤ 8) (hn : n ≤ 999999) (hk : k.length = 4) : nameOk (fileN nm n k) = true := by
  have hl := fileN_len (nm := nm) (k := k) hn
  unfold nameOk
  rw [Bool.and_eq_true, decide_eq_true_eq, decide_eq_true_eq]
  refine ⟨fun e => ?_, by omega⟩
  rw [e] at hl
  simp at hl
  omega
theorem LogIs.behead {D : Dk} {nm : List Nat} {s : Nat × List (List Nat)} {r : List (Nat × List (List Nat))} (h : LogIs D nm (s :: r)) (hnl : nm.length ≤ 8) :
    D.dropE (fileN nm s.1 ackK) = 0 ∧ (D.delete (fileN nm s.1 ackK)).dropE (fileN nm s.1 logK) = 0 ∧ LogIs ((D.delete (fileN nm s.1 ackK)).delete (fileN nm s.1 logK)) nm r ∧ ((D.delete (fileN nm s.1 ackK)).delete (fileN nm s.1 logK)).room = D.room ∧ ((D.delete (fileN nm s.1 ackK)).delete (fileN nm s.1 logK)).used ≤ D.used ∧ ((D.delete (fileN nm s.1 ackK)).delete (fileN nm s.1 logK)).files.length ≤ D.files.length := by
  have hs6 := h.le s List.mem_cons_self
  obtain ⟨a1, a2, a3, a4, a5, a6, a7⟩ := del_calm h.calm h.nd (name_ok (k := ackK) hnl hs6 rfl)
  obtain ⟨b1, b2, b3, b4, b5, b6, b7⟩ := del_calm a2 a3 (name_ok (k := logK) hnl hs6 rfl)
  have hinc := h.inc
  rw [List.map_cons, List.pairwise_cons] at hinc
  have hlt : ∀ t ∈ r, s.1 < t.1 := fun t ht => hinc.1 t.1 (List.mem_map.2 ⟨t, ht, rfl⟩)
  have hne : ∀ t ∈ r, ∀ k k' : List Nat, fileN nm t.1 k ≠ fileN nm s.1 k' := fun t ht k k' e => by
    have h1 := (fileN_inj (h.le t (List.mem_cons_of_mem _ ht)) hs6 e).1
    have h2 := hlt t ht
    omega
  refine ⟨a1, b1, ⟨b2, b3, hinc.2, fun t ht => h.le t (List.mem_cons_of_mem _ ht), fun t ht => h.recs t (List.mem_cons_of_mem _ ht), fun t ht => ?_, fun t ht => ?_, fun x hx => ?_⟩, by rw [b4, a4], by omega, by omega⟩
  · rw [b7, a7, if_neg (hne t ht _ _), if_neg (hne t ht _ _)]
    exact h.log t (List.mem_cons_of_mem _ ht)
  · rw [b7, a7, if_neg (hne t ht _ _), if_neg (hne t ht _ _)]
    exact h.ack t (List.mem_cons_of_mem _ ht)
  · rw [b7, a7] at hx
    by_cases e1 : x = fileN nm s.1 logK
    · rw [if_pos e1] at hx; cases hx
    · rw [if_neg e1] at hx
      by_cases e2 : x = fileN nm s.1 ackK
      · rw [if_pos e2] at hx; cases hx
      · rw [if_neg e2] at hx
        obtain ⟨t, ht, e⟩ := h.own x hx
        rcases List.mem_cons.1 ht with rfl | ht
        · rcases e with e | e
          · exact absurd e e1
          · exact absurd e e2
        · exact ⟨t, ht, e⟩
theorem retGo_log {nm : List Nat} {lim : Int} (hnl : nm.length ≤ 8) : ∀ (segs : List (Nat × List (List Nat))) (D : Dk), LogIs D nm segs → ∃ D', retGo nm lim (segs.map (·.1)) D = (D', 0) ∧ LogIs D' nm (segs.filter fun s => decide (lim ≤ (s.1 : Int))) ∧ D'.room = D.room ∧ D'.used ≤ D.used ∧ D'.files.length ≤ D.files.length
  | [], D, h => ⟨D, rfl, h, rfl, Int.le_refl _, Nat.le_refl _⟩
  | s :: r, D, h => by
    rw [List.map_cons, retGo]
    by_cases hl : lim ≤ (s.1 : Int)
    · rw [if_pos hl]
      have hall : (s :: r).filter (fun s => decide (lim ≤ (s.1 : Int))) = s :: r := by
        rw [List.filter_eq_self]
        intro t ht
        rw [decide_eq_true_eq]
        rcases List.mem_cons.1 ht with rfl | ht
        · exact hl
        · have hinc := h.inc
          rw [List.map_cons, List.pairwise_cons] at hinc
          have := hinc.1 t.1 (List.mem_map.2 ⟨t, ht, rfl⟩)
          omega
      rw [hall]
      exact ⟨D, rfl, h, rfl, Int.le_refl _, Nat.le_refl _⟩
    · obtain ⟨a1, a2, a3, a4, a5, a6⟩ := h.behead hnl
      rw [if_neg hl, a1, if_neg (by simp), a2, if_neg (by simp), List.filter_cons_of_neg (by simpa using hl)]
      obtain ⟨D', b1, b2, b3, b4, b5⟩ := retGo_log hnl r _ a3
      exact ⟨D', b1, b2, by rw [b3, a4], by omega, by omega⟩
/-- A log within bounds, some acts behind its beginning. -/
structure PlIs (D : Dk) (W : Wl) (segs : List (Nat × List (List Nat))) (k : Nat) : Prop where
  wl : WlIs D [119] W segs
  room : D.room = 1048576
  files : D.files.length ≤ 2 * k
  used : D.used ≤ 336 * (k : Int)
  num : W.num ≤ 900 + k
  cnt : W.count ≤ k
  size : W.size ≤ 312 * k
  recs : (recsOf segs).length ≤ k
section
variable {D : Dk} {W : Wl} {segs : List (Nat × List (List Nat))} {k : Nat}
theorem PlIs.le_num (h : PlIs D W segs k) : ∀ s ∈ segs, s.1 ≤ W.num := by
  obtain ⟨ini, l, h1, h2, -, -⟩ := h.wl.last
  intro s hs
  split at h1
  · rw [h1.1] at hs
    exact Nat.le_of_lt (h2 s hs)
  · rw [h1] at hs
    rcases List.mem_append.1 hs with hs | hs
    · exact Nat.le_of_lt (h2 s hs)
    · simp at hs; subst hs; exact Nat.le_refl _
theorem PlIs.begin_ : PlIs (Dk.new 1048576) ⟨0, 0, 0, false⟩ [] 0 := ⟨WlIs.opened LogIs.nil, rfl, Nat.le_refl _, Int.le_refl _, by simp, Nat.le_refl _, Nat.le_refl _, Nat.le_refl _⟩
theorem PlIs.append (h : PlIs D W segs k) (hk : k ≤ 30) {data : List Nat} (hd : Byt data) (hdl : data.length ≤ 300) :
    ∃ D' segs', appW W D [119] data = (⟨W.num, W.count + 1, W.size + (data.length + 12), false⟩, D', 0) ∧ PlIs D' ⟨W.num, W.count + 1, W.size + (data.length + 12), false⟩ segs' (k + 1) ∧ recsOf segs' = recsOf segs ++ [(W.num, data)] := by
  have h1 := h.room
  have h2 := h.files
  have h3 := h.used
  have h4 := h.num
  have h5 := h.cnt
  have h6 := h.size
  have h7 := h.recs
  obtain ⟨D', segs', a1, a2, a3, a4, a5, a6⟩ := h.wl.append (by decide) hd (by omega) (by omega) (by omega) (by omega) (by omega) (by omega)
  refine ⟨D', segs', a1, ⟨a2, by rw [a4, h1], by omega, by rw [a5]; omega, by show W.num ≤ _; omega, by show W.count + 1 ≤ _; omega, by show W.size + (data.length + 12) ≤ _; omega, ?_⟩, a3⟩
  rw [a3, List.length_append, List.length_singleton]
  omega
theorem PlIs.rotate (h : PlIs D W segs k) : PlIs D W.rotate segs (k + 1) := by
  have h2 := h.files
  have h3 := h.used
  have h4 := h.num
  have h5 := h.cnt
  have h6 := h.size
  have h7 := h.recs
  refine ⟨h.wl.rotated, h.room, by omega, by omega, ?_, ?_, ?_, by omega⟩
  all_goals
    unfold Wl.rotate
    split
    · simp only; omega
    · omega
theorem PlIs.least (h : PlIs D W segs k) {n : Int} (hn : n < 900) : PlIs D (W.least n) segs (k + 1) := by
  have h2 := h.files
  have h3 := h.used
  have h4 := h.num
  have h5 := h.cnt
  have h6 := h.size
  have h7 := h.recs
  have h8 := h.le_num
  refine ⟨?_, h.room, by omega, by omega, ?_, ?_, ?_, by omega⟩
  · unfold Wl.least
    split
    · refine ⟨h.wl.log, h.wl.broken, .inl ⟨rfl, rfl, fun s hs => ?_⟩⟩
      have := h8 s hs
      show s.1 < n.toNat
      omega
    · exact h.wl
  all_goals
    unfold Wl.least
    split
    · simp only; omega
    · omega
theorem recsOf_filter (segs : List (Nat × List (List Nat))) (p : Nat → Bool) : recsOf (segs.filter fun s => p s.1) = (recsOf segs).filter fun r => p r.1 := by
  induction segs with
  | nil => rfl
  | cons s r ih =>
    have e : recsOf (s :: r) = (s.2.map fun x => (s.1, x)) ++ recsOf r := by simp [recsOf]
    rw [e, List.filter_append, ← ih]
    cases hp : p s.1 with
    | true =>
      rw [List.filter_cons_of_pos (by simpa using hp)]
      have e2 : (s.2.map fun x => (s.1, x)).filter (fun r => p r.1) = s.2.map fun x => (s.1, x) := by
        rw [List.filter_eq_self]
        intro q hq
        obtain ⟨x, -, rfl⟩ := List.mem_map.1 hq
        exact hp
      rw [e2]
      simp [recsOf]
    | false =>
      rw [List.filter_cons_of_neg (by simp [hp])]
      have e2 : (s.2.map fun x => (s.1, x)).filter (fun r => p r.1) = [] := by
        rw [List.filter_eq_nil_iff]
        intro q hq
        obtain ⟨x, -, rfl⟩ := List.mem_map.1 hq
        simp [hp]
      rw [e2, List.nil_append]
theorem PlIs.retire (h : PlIs D W segs k) (N : Int) : ∃ D' segs', retW W D [119] N = (W, D', 0) ∧ PlIs D' W segs' (k + 1) ∧ recsOf segs' = (recsOf segs).filter fun r => decide (min N (W.num : Int) ≤ (r.1 : Int)) := by
  have h2 := h.files
  have h3 := h.used
  have h4 := h.num
  have h5 := h.cnt
  have h6 := h.size
  have h7 := h.recs
  obtain ⟨D', a1, a2, a3, a4, a5⟩ := retGo_log (nm := [119]) (lim := min N (W.num : Int)) (by decide) segs D h.wl.log
  have hf := recsOf_filter segs (fun n => decide (min N (W.num : Int) ≤ (n : Int)))
  refine ⟨D', segs.filter fun s => decide (min N (W.num : Int) ≤ (s.1 : Int)), ?_, ⟨⟨a2, h.wl.broken, ?_⟩, by rw [a3, h.room], by omega, by omega, by omega, by omega, by omega, ?_⟩, hf⟩
  · unfold retW
    rw [if_neg (by simp [h.wl.broken]), h.wl.log.nums, a1]
    simp
  · rcases h.wl.at_ with ⟨b1, b2, b3⟩ | ⟨ini, l, b1, b2, b3⟩
    · exact .inl ⟨b1, b2, fun s hs => b3 s ((List.mem_filter.1 hs).1)⟩
    · refine .inr ⟨ini.filter fun s => decide (min N (W.num : Int) ≤ (s.1 : Int)), l, ?_, b2, b3⟩
      rw [b1, List.filter_append]
      congr 1
      rw [List.filter_cons_of_pos (by simp; omega)]
      rfl
  · rw [hf]
    have := List.length_filter_le (fun r : Nat × List Nat => decide (min N (W.num : Int) ≤ (r.1 : Int))) (recsOf segs)
    omega
end
end Go.Proofs.YtnlepoplncjliaaGreatDoor

namespace Go.Proofs.YtnlepoplncjliaaGreatDoor
open Go.RowKit

/-- What lies below a bound stays. -/
structure Bf (B : Nat) (w w' : World) : Prop where
  below : Below (min B w.heap.size) w w'
section
variable {B : Nat} {w w' w'' : World}
theorem Bf.refl (B : Nat) (w : World) : Bf B w w := ⟨Below.refl _ _⟩
theorem Bf.size (h : Bf B w w') : w.heap.size ≤ w'.heap.size := h.below.size
theorem Bf.trans (h : Bf B w w') (k : Bf B w' w'') : Bf B w w'' := ⟨h.below.trans (k.below.mono (by have := h.size; omega))⟩
theorem Bf.bf (h : Bf B w w') (k : Bf B w' w'') : Bf B w w'' := h.trans k
theorem Bf.lf (h : Bf B w w') (k : Lf B w' w'') : Bf B w w'' := h.trans ⟨k.below⟩
theorem Bf.df (h : Bf B w w') (k : Df B w' w'') : Bf B w w'' := h.trans ⟨k.below⟩
theorem Bf.step (h : Bf B w w') (k : Below w'.heap.size w' w'') : Bf B w w'' := h.trans ⟨k.mono (Nat.min_le_right _ _)⟩
theorem Bf.put {B' g : Nat} {T : TypeId} {cur cs : Array Value} (h : Bf B w w') (k : Blk w' g T cur) (p : Put w' w'' g T cs) (e : B' ≤ g) (ht : B ≤ B' ∨ w.heap.size ≤ B' := by omega) : Bf B w w'' := ⟨h.below.trans (p.below (by omega) k.lt)⟩
theorem Bf.app {B2 B3 n size : Nat} {e : TypeId} {v : Value} {xs : List Value} (h : Bf B w w') (_o : Own w' B2 e size v n xs) (ha : App w' w'' B3 v) (ht : B ≤ B3 ∨ w.heap.size ≤ B3 := by omega) : Bf B w w'' := ⟨h.below.trans (ha.below.mono (by omega))⟩
theorem Bf.to (h : Bf B w w') (hB : B ≤ w.heap.size) : Below B w w' := by have := h.below; rwa [Nat.min_eq_left hB] at this
theorem Gv.bf (h : Gv w) (f : Bf B w w') (hB : 4 < B := by omega) : Gv w' := h.below f.below (by have := tab_lt h.pow; omega)
theorem Gv.app {B2 B3 n size : Nat} {e : TypeId} {v : Value} {xs : List Value} (h : Gv w) (_o : Own w B2 e size v n xs) (ha : App w w' B3 v) (hB : 4 < B3 := by omega) : Gv w' := h.below ha.below hB
end
/-- A log under way, and what must be there. -/
def runCs (gd g6 : Nat) (v : Value) (num : Int) (has : Bool) : Array Value := #[.pointer (some ⟨gd, 0, none⟩), .pointer (some ⟨g6, 0, none⟩), v, .int .i64 num, .bool has]
theorem run_build_run (gd g6 : Nat) (w : World) : (Instr.build 59 #[(0, .pointer (some ⟨gd, 0, none⟩)), (1, .pointer (some ⟨g6, 0, none⟩))]).run Tryz.prog w = .ok (.agg (runCs gd g6 (.slice none 0 0) 0 false)) w := by
  have hu := Tryz.underlying59
  unfold runCs
  go_simp
/-- A log under way, in its blocks. -/
structure RunAt (w : World) (B gr : Nat) (D : Dk) (W : Wl) (segs : List (Nat × List (List Nat))) : Prop where
  ex : ∃ gd g6 v, Blk w gr 59 (runCs gd g6 v (W.num : Int) (decide (0 < W.count))) ∧ DkAt w B gd D ∧ Blk w g6 80 (W.cs gd [119]) ∧ Own w B 36 2 v (recsOf segs).length (recsV (recsOf segs)) ∧ B ≤ g6
  hr : B ≤ gr
theorem RunAt.step {w w' : World} {B gr : Nat} {D : Dk} {W : Wl} {segs : List (Nat × List (List Nat))} (h : RunAt w B gr D W segs) (hb : Below w.heap.size w w') : RunAt w' B gr D W segs := by
  obtain ⟨⟨gd, g6, v, h1, h2, h3, h4, h5⟩, h6⟩ := h
  exact ⟨⟨gd, g6, v, h1.step hb, h2.step hb, h3.step hb, h4.step hb, h5⟩, h6⟩
set_option maxHeartbeats 2000000 in
theorem begin_r_any (w : World) (gv : Gv w) : Calls Tryz.prog 24 #[] w fun e w' => ∃ gr, e = .returned (.pointer (some ⟨gr, 0, none⟩)) ∧ RunAt w' w.heap.size gr (Dk.new 1048576) ⟨0, 0, 0, false⟩ [] ∧ Grow w w' := by
  have lf := Lf.refl w.heap.size w
  have hgw := tab_lt gv.pow
  have hL0 : LogIs (Dk.new 1048576) [119] [] := LogIs.nil
  have hO0 := hL0.opens
  have hnext : nextN 0 [] = 0 := rfl
  have hrec0 : recsOf [] = [] := rfl
  rw [hnext, hrec0] at hO0
  refine Calls.start 31 Tryz.func24 rfl rfl rfl ?_
  refine Cd.seq ?_
  refine Cd.region ?_
  refine Seq.val (Runs.assign rfl rfl) rfl rfl rfl ?_
  refine Seq.nil ?_
  refine Post.weak (F' := [(0, _)]) ⟨rfl, trivial⟩ ?_
  refine Post.then_ ?_
  refine Cd.seq ?_
  refine Cd.region ?_
  refine Seq.call (Enters.func rfl rfl rfl (run_enter Tryz.func12 (by kernel_rfl) rfl)) rfl rfl rfl (new_any 1048576 _ (by omega) (by omega)) ?_
  rintro e w5 ⟨gd, rfl, dk, hb5⟩
  refine ⟨_, rfl, ?_⟩
  replace lf := lf.step hb5
  replace gv := gv.step hb5
  refine Seq.val (Runs.assign rfl rfl) rfl rfl rfl ?_
  refine Seq.nil ?_
  refine Post.weak (F' := [(0, _), (1, _)]) ⟨rfl, rfl, trivial⟩ ?_
  refine Post.then_ ?_
  refine Cd.seq ?_
  refine Cd.region ?_
  refine Seq.val (Runs.move rfl rfl) rfl rfl rfl ?_
  refine Seq.call (Enters.func rfl rfl rfl (run_enter Tryz.func13 (by kernel_rfl) rfl)) rfl rfl rfl (open_any w.heap.size gd (Dk.new 1048576) [119] _ gv hgw dk rfl right_w (byt_one (by omega)) hL0.own_nm) ?_
  clear dk
  rintro e w1 ⟨v1, v2, rfl, hO, dk, fw1⟩
  refine ⟨_, rfl, ?_⟩
  replace lf := lf.df fw1
  replace gv := gv.df fw1
  rw [hO0] at hO dk
  rw [hO0]
  rcases hO with ⟨h, -, -⟩ | ⟨-, g6, rfl, hg6, k6, own6⟩
  · exact absurd rfl h
  obtain ⟨A, c, rfl, -⟩ := own6.reads
  clear own6
  have e6 : w.heap.size ≤ g6 := Nat.le_trans hb5.size hg6
  replace k6 : Blk _ g6 80 (Wl.cs ⟨0, 0, 0, false⟩ gd [119]) := k6
  replace dk : DkAt _ w.heap.size gd (Dk.new 1048576) := dk
  have hsz1 := lf.size
  refine Seq.val (Runs.move rfl rfl) rfl rfl rfl ?_
  refine Seq.val (Runs.extract rfl rfl rfl) rfl rfl rfl ?_
  refine Seq.val (Runs.extract rfl rfl rfl) rfl rfl rfl ?_
  refine Seq.val (Runs.extract rfl rfl rfl) rfl rfl rfl ?_
  refine Seq.val (Runs.assign rfl rfl) rfl rfl rfl ?_
  refine Seq.val (Runs.assign rfl rfl) rfl rfl rfl ?_
  refine Seq.val (Runs.assign rfl rfl) rfl rfl rfl ?_
  refine Seq.nil ?_
  refine Post.weak (F' := [(0, _), (1, _), (2, _), (3, _), (4, _)]) ⟨rfl, rfl, rfl, rfl, rfl, trivial⟩ ?_
  refine Post.then_ ?_
  refine Cd.seq ?_
  refine Cd.seq ?_
  refine Cd.region ?_
  refine Seq.val (Runs.move rfl rfl) rfl rfl rfl ?_
  refine Seq.val (Runs.eqlP rfl rfl rfl Tryz.underlying26) rfl rfl rfl ?_
  refine Seq.val (Runs.move rfl rfl) rfl rfl rfl ?_
  refine SeqC.start ?_
  refine SeqC.open rfl rfl rfl rfl rfl rfl rfl (fun hcx => Runs.move rfl rfl) ?_
  refine SeqC.next rfl rfl rfl rfl rfl rfl rfl (fun hcx => Runs.eqlP rfl rfl rfl Tryz.underlying28) ?_
  refine SeqC.or rfl rfl rfl rfl rfl rfl rfl ?_
  refine Seq.val (Runs.move rfl rfl) rfl rfl rfl ?_
  refine SeqC.start ?_
  refine SeqC.open rfl rfl rfl rfl rfl rfl rfl (fun hcx => Runs.move rfl rfl) ?_
  refine SeqC.next rfl rfl rfl rfl rfl rfl rfl (fun hcx => Runs.neqI rfl rfl rfl) ?_
  refine SeqC.or rfl rfl rfl rfl rfl rfl rfl ?_
  refine Seq.val (Runs.move rfl rfl) rfl rfl rfl ?_
  refine SeqC.start ?_
  refine SeqC.open rfl rfl rfl rfl rfl rfl rfl (fun hcx => Runs.move rfl rfl) ?_
  refine SeqC.next rfl rfl rfl rfl rfl rfl rfl (fun hcx => Runs.len rfl rfl Tryz.underlying29) ?_
  refine SeqC.next rfl rfl rfl rfl rfl rfl rfl (fun hcx => Runs.neqI rfl rfl rfl) ?_
  refine SeqC.or rfl rfl rfl rfl rfl rfl rfl ?_
  refine Seq.nil ?_
  refine Post.weak (F' := [(0, _), (1, _), (2, _), (3, _), (4, _), (26, _)]) ⟨rfl, rfl, rfl, rfl, rfl, rfl, trivial⟩ ?_
  refine Post.then_ ?_
  refine Cd.condF rfl rfl ?_
  refine Cd.skip ?_
  refine Post.then_ ?_
  refine Cd.seq ?_
  refine Cd.region ?_
  refine Seq.val (Runs.move rfl rfl) rfl rfl rfl ?_
  refine Seq.val (Runs.move rfl rfl) rfl rfl rfl ?_
  refine Seq.val (Runs.build rfl rfl (run_build_run gd g6 _)) rfl rfl rfl ?_
  refine Seq.box rfl rfl rfl rfl rfl ?_
  intro g30 w2 n30
  have l30 := Nat.lt_of_lt_of_le k6.lt n30.ge
  replace lf := lf.step n30.below
  replace gv := gv.step n30.below
  replace dk := dk.step n30.below
  replace k6 := k6.step n30.below
  have k30 := n30.blk
  refine Seq.val (Runs.assign rfl rfl) rfl rfl rfl ?_
  refine Seq.nil ?_
  refine Post.weak (F' := [(0, _), (1, _), (2, _), (3, _), (4, _), (26, _)]) ⟨rfl, rfl, rfl, rfl, rfl, rfl, trivial⟩ ?_
  refine Post.then_ ?_
  refine Cd.ret ?_
  refine Post.end1 rfl rfl (.inl rfl) ?_
  exact ⟨g30, rfl, ⟨⟨gd, g6, .slice none 0 0, k30, dk, k6, Own.nil _ _ _ _, e6⟩, Nat.le_trans hsz1 n30.ge⟩, lf.to (Nat.le_refl _)⟩
theorem same_self (A A' : Option Addr) (n c n' c' B : Nat) (l : List (Nat × List Nat)) (w : World) (hr : Reads w B 2 A n (recsV l)) (hr' : Reads w B 2 A' n' (recsV l)) (hB : B ≤ w.heap.size) (hb : ∀ r ∈ l, Byt r.2) (hn : n ≤ 1000000000) (hn' : n' ≤ 1000000000) :
    Calls Tryz.prog 16 #[.slice A n c, .slice A' n' c'] w fun e w' => e = .returned (.bool true) ∧ Grow w w' := by
  have h := same_any A A' n c n' c' B l l w hr hr' hB hb hb hn hn'
  rw [decide_eq_true rfl] at h
  exact h
end Go.Proofs.YtnlepoplncjliaaGreatDoor

namespace Go.Proofs.YtnlepoplncjliaaGreatDoor
open Go.RowKit

/-- An act. -/
structure ActV where
  kind : Int
  n : Int
  data : List Nat
def ActV.cs (a : ActV) : List Value := [.int .i64 a.kind, .int .i64 a.n, .string (strOf a.data)]
def ActV.v (a : ActV) : Value := .agg #[.int .i64 a.kind, .int .i64 a.n, .string (strOf a.data)]
/-- A log's block and its disk. -/
structure WkAt (w : World) (B gd g6 : Nat) (D : Dk) (W : Wl) : Prop where
  k : Blk w g6 80 (W.cs gd [119])
  dk : DkAt w B gd D
theorem WkAt.step {w w' : World} {B gd g6 : Nat} {D : Dk} {W : Wl} (h : WkAt w B gd g6 D W) (hb : Below w.heap.size w w') : WkAt w' B gd g6 D W := ⟨h.k.step hb, h.dk.step hb⟩
def nthW (W0 W1 : Wl) (c : Nat) : Wl := if c = 0 then W0 else W1
theorem rotate_j (B g6 gd : Nat) (D : Dk) (W : Wl) (w : World) (e6 : B ≤ g6) (h : WkAt w B gd g6 D W) (hn : W.num ≤ 1000000000) :
    Calls Tryz.prog 29 #[.pointer (some ⟨g6, 0, none⟩)] w fun e w' => e = .returned (.int .i64 (W.rotate.num : Int)) ∧ Lf B w w' ∧ WkAt w' B gd g6 D W.rotate :=
  (rotate_any B g6 gd D [119] W w e6 h.dk.size h.k h.dk hn).mono fun _ _ ⟨h1, h2, h3, h4⟩ => ⟨h1, h4, h2, h3⟩
theorem least_j (B g6 gd : Nat) (D : Dk) (n : Int) (W : Wl) (w : World) (e6 : B ≤ g6) (h : WkAt w B gd g6 D W) (hn : W.num ≤ 1000000000) :
    Calls Tryz.prog 30 #[.pointer (some ⟨g6, 0, none⟩), .int .i64 n] w fun e w' => e = .returned (.int .i64 ((W.least n).num : Int)) ∧ Lf B w w' ∧ WkAt w' B gd g6 D (W.least n) :=
  (least_any B g6 gd D [119] n W w e6 h.dk.size h.k h.dk hn).mono fun _ _ ⟨h1, h2, h3, h4⟩ => ⟨h1, h4, h2, h3⟩
end Go.Proofs.YtnlepoplncjliaaGreatDoor

namespace Go.Proofs.YtnlepoplncjliaaGreatDoor
open Go.RowKit

theorem xor_lc (a b c : Nat) : a ^^^ (b ^^^ c) = b ^^^ (a ^^^ c) := by rw [← Nat.xor_assoc, Nat.xor_comm a b, Nat.xor_assoc]
/-- One bit more falls out. -/
def fS (r : Nat) : Nat := r / 2 ^^^ (if r % 2 = 1 then 2197175160 else 0)
def itS : Nat → Nat → Nat
  | 0, r => r
  | n + 1, r => itS n (fS r)
theorem fS_xor (a b : Nat) : fS (a ^^^ b) = fS a ^^^ fS b := by
  have h1 : (a ^^^ b) / 2 = a / 2 ^^^ b / 2 := Nat.xor_div_two
  have h2 : (a ^^^ b) % 2 = 1 ↔ ¬ (a % 2 = 1 ↔ b % 2 = 1) := Nat.xor_mod_two_eq_one
  unfold fS
  rw [h1]
  by_cases ha : a % 2 = 1
  · by_cases hb : b % 2 = 1
    · rw [if_neg (by rw [h2]; simp [ha, hb]), if_pos ha, if_pos hb]
      simp [Nat.xor_assoc, Nat.xor_comm, xor_lc]
    · rw [if_pos (by rw [h2]; simp [ha, hb]), if_pos ha, if_neg hb]
      simp [Nat.xor_assoc, Nat.xor_comm, xor_lc]
  · by_cases hb : b % 2 = 1
    · rw [if_pos (by rw [h2]; simp [ha, hb]), if_neg ha, if_pos hb]
      simp [Nat.xor_assoc]
    · rw [if_neg (by rw [h2]; simp [ha, hb]), if_neg ha, if_neg hb]
      simp
theorem fS_two (y : Nat) : fS (2 * y) = y := by
  unfold fS
  rw [if_neg (by omega), Nat.xor_zero]
  omega
theorem fS_lt {r : Nat} (h : r < 4294967296) : fS r < 4294967296 := by
  unfold fS
  refine Nat.xor_lt_two_pow (n := 32) (by omega) ?_
  split <;> decide
theorem fS_zero {r : Nat} (h : r < 4294967296) (h0 : fS r = 0) : r = 0 := by
  unfold fS at h0
  by_cases h1 : r % 2 = 1
  · rw [if_pos h1] at h0
    have : r / 2 = 2197175160 := by
      have := congrArg (fun z => z ^^^ 2197175160) h0
      simpa [Nat.xor_assoc] using this
    omega
  · rw [if_neg h1, Nat.xor_zero] at h0
    omega
theorem itS_xor : ∀ (n a b : Nat), itS n (a ^^^ b) = itS n a ^^^ itS n b
  | 0, _, _ => rfl
  | n + 1, a, b => by rw [itS, fS_xor, itS_xor]; rfl
theorem itS_add : ∀ (m n r : Nat), itS (m + n) r = itS n (itS m r)
  | 0, n, r => by rw [Nat.zero_add]; rfl
  | m + 1, n, r => by rw [Nat.succ_add, itS, itS_add m n]; rfl
theorem itS_pow : ∀ (n y : Nat), itS n (2 ^ n * y) = y
  | 0, y => by simp [itS]
  | n + 1, y => by rw [itS, Nat.pow_succ, Nat.mul_comm (2 ^ n) 2, Nat.mul_assoc, fS_two, itS_pow]
theorem itS_zero {n : Nat} : ∀ {r : Nat}, r < 4294967296 → itS n r = 0 → r = 0 := by
  induction n with
  | zero => intro r _ h; exact h
  | succ n ih => intro r h h0; exact fS_zero h (ih (fS_lt h) h0)
theorem xor_split {i a b : Nat} (h : b < 2 ^ i) : 2 ^ i * a + b = (2 ^ i * a) ^^^ b := by
  apply Nat.eq_of_testBit_eq
  intro j
  rw [Nat.testBit_two_pow_mul_add a h j, Nat.testBit_xor, Nat.testBit_two_pow_mul]
  by_cases hj : j < i
  · rw [if_pos hj, decide_eq_false (show ¬ j ≥ i by omega)]
    simp
  · rw [if_neg hj, decide_eq_true (show j ≥ i by omega)]
    have : b.testBit j = false := Nat.testBit_lt_two_pow (Nat.lt_of_lt_of_le h (Nat.pow_le_pow_right (by decide) (by omega)))
    rw [this]
    simp
theorem stepN_it (r : Nat) : stepN r = itS 4 r := by
  have h : r = (2 ^ 4 * (r / 16)) ^^^ (r % 16) := by
    rw [← xor_split (show r % 16 < 2 ^ 4 by have := Nat.mod_lt r (show 16 > 0 by decide); simpa using this)]
    have := Nat.div_add_mod r 16
    simpa using this.symm
  have hT : ∀ n, n < 16 → itS 4 n = nibs.getD n 0 := by decide
  unfold stepN
  conv => rhs; rw [h, itS_xor, itS_pow, hT _ (Nat.mod_lt _ (by decide))]
theorem crcB_it (r b : Nat) : crcB r b = itS 8 (r ^^^ b) := by
  unfold crcB
  rw [stepN_it, stepN_it, ← itS_add]
/-- Bytes as a number, the lowest first. -/
def valL : List Nat → Nat
  | [] => 0
  | c :: s => c + 256 * valL s
theorem valL_cons {c : Nat} (s : List Nat) (h : c < 256) : valL (c :: s) = (2 ^ 8 * valL s) ^^^ c := by
  rw [← xor_split (show c < 2 ^ 8 by simpa using h), valL]
  omega
theorem valL_lt : ∀ {s : List Nat}, Byt s → valL s < 2 ^ (8 * s.length)
  | [], _ => by simp [valL]
  | c :: s, h => by
    have ih := valL_lt h.tail
    have hc := h c List.mem_cons_self
    rw [valL, List.length_cons, Nat.mul_add, Nat.pow_add]
    have : (2 : Nat) ^ (8 * 1) = 256 := by decide
    rw [this]
    omega
theorem valL_inj : ∀ {s t : List Nat}, Byt s → Byt t → s.length = t.length → valL s = valL t → s = t
  | [], [], _, _, _, _ => rfl
  | [], _ :: _, _, _, h, _ => by simp at h
  | _ :: _, [], _, _, h, _ => by simp at h
  | c :: s, d :: t, hs, ht, hl, hv => by
    have hc := hs c List.mem_cons_self
    have hd := ht d List.mem_cons_self
    simp only [valL] at hv
    have e : c = d := by omega
    subst e
    rw [valL_inj hs.tail ht.tail (by simpa using hl) (by omega)]
theorem valL_take : ∀ (k : Nat) {s : List Nat}, Byt s → valL (s.take k) = valL s % 2 ^ (8 * k)
  | 0, s, _ => by simp [valL, Nat.mod_one]
  | k + 1, [], _ => by simp [valL]
  | k + 1, c :: s, h => by
    have ih := valL_take k h.tail
    have hc := h c List.mem_cons_self
    rw [List.take_succ_cons, valL, ih, valL, Nat.mul_add, Nat.pow_add, Nat.mul_comm (2 ^ (8 * k))]
    have e : (2 : Nat) ^ (8 * 1) = 256 := by decide
    rw [e, Nat.mod_mul]
    have h1 : (c + 256 * valL s) % 256 = c := by omega
    have h2 : (c + 256 * valL s) / 256 = valL s := by omega
    rw [h1, h2]
theorem valL_drop : ∀ (k : Nat) {s : List Nat}, Byt s → valL (s.drop k) = valL s / 2 ^ (8 * k)
  | 0, s, _ => by simp
  | k + 1, [], _ => by simp [valL]
  | k + 1, c :: s, h => by
    have ih := valL_drop k h.tail
    have hc := h c List.mem_cons_self
    rw [List.drop_succ_cons, ih, valL, Nat.mul_add, Nat.pow_add, Nat.mul_comm (2 ^ (8 * k)), ← Nat.div_div_eq_div_mul]
    have e : (2 : Nat) ^ (8 * 1) = 256 := by decide
    rw [e]
    congr 1
    omega
theorem regN_it : ∀ (s : List Nat) (r : Nat), Byt s → regN r s = itS (8 * s.length) (r ^^^ valL s)
  | [], r, _ => by simp [regN, itS, valL]
  | c :: s, r, h => by
    have hc := h c List.mem_cons_self
    have e : regN r (c :: s) = regN (crcB r c) s := rfl
    rw [e, regN_it s _ h.tail, crcB_it, valL_cons s hc, List.length_cons, Nat.mul_add, Nat.add_comm (8 * s.length), itS_add]
    congr 1
    have h2 : r ^^^ (2 ^ 8 * valL s ^^^ c) = (r ^^^ c) ^^^ (2 ^ 8 * valL s) := by rw [Nat.xor_comm (2 ^ 8 * valL s), Nat.xor_assoc]
    rw [h2]
    show itS 8 (r ^^^ c) ^^^ valL s = itS 8 ((r ^^^ c) ^^^ (2 ^ 8 * valL s))
    rw [itS_xor 8 (r ^^^ c), itS_pow]
theorem neg_xor {r : Nat} (h : r < 4294967296) : 4294967295 - r = 4294967295 ^^^ r := by
  have h1 : (4294967295 ^^^ r) = 2 ^ 32 - (r + 1) := by
    apply Nat.eq_of_testBit_eq
    intro j
    rw [Nat.testBit_xor, Nat.testBit_two_pow_sub_succ (by simpa using h)]
    have : (4294967295 : Nat).testBit j = decide (j < 32) := by
      have := Nat.testBit_two_pow_sub_one 32 j
      simpa using this
    rw [this]
    by_cases hj : j < 32
    · simp [hj]
    · have : r.testBit j = false := Nat.testBit_lt_two_pow (Nat.lt_of_lt_of_le h (by rw [show (4294967296 : Nat) = 2 ^ 32 by decide]; exact Nat.pow_le_pow_right (by decide) (by omega)))
      simp [hj, this]
  rw [h1]
  omega
theorem valL_laid {x : List Nat} (hx : Byt x) : valL (laidC x) = 4294967295 ^^^ itS (8 * x.length) (4294967295 ^^^ valL x) := by
  have h1 := moreN_lt hx
  have h2 : valL (laidC x) = moreN 0 x := by
    unfold laidC
    simp only [valL]
    omega
  rw [h2]
  unfold moreN
  have h3 : regN 4294967295 x < 4294967296 := regN_lt (by decide) hx
  rw [Nat.sub_zero, neg_xor h3, regN_it x _ hx]
/-- Bits that lie within 32 places. -/
def BurstN (E : Nat) : Prop := ∃ p b, b < 4294967296 ∧ E = 2 ^ p * b
theorem BurstN.div {E : Nat} (h : BurstN E) (m : Nat) : BurstN (E / 2 ^ m) := by
  obtain ⟨p, b, hb, rfl⟩ := h
  by_cases hm : m ≤ p
  · refine ⟨p - m, b, hb, ?_⟩
    rw [show (2 : Nat) ^ p = 2 ^ m * 2 ^ (p - m) by rw [← Nat.pow_add]; congr 1; omega, Nat.mul_assoc, Nat.mul_div_cancel_left _ (Nat.two_pow_pos m)]
  · refine ⟨0, b / 2 ^ (m - p), Nat.lt_of_le_of_lt (Nat.div_le_self _ _) hb, ?_⟩
    rw [show (2 : Nat) ^ m = 2 ^ p * 2 ^ (m - p) by rw [← Nat.pow_add]; congr 1; omega, Nat.mul_div_mul_left _ _ (Nat.two_pow_pos p)]
    simp
theorem BurstN.mod {E : Nat} (h : BurstN E) (m : Nat) : BurstN (E % 2 ^ m) := by
  obtain ⟨p, b, hb, rfl⟩ := h
  by_cases hm : m ≤ p
  · refine ⟨0, 0, by decide, ?_⟩
    rw [show (2 : Nat) ^ p = 2 ^ m * 2 ^ (p - m) by rw [← Nat.pow_add]; congr 1; omega, Nat.mul_assoc, Nat.mul_mod_right]
  · refine ⟨p, b % 2 ^ (m - p), Nat.lt_of_le_of_lt (Nat.mod_le _ _) hb, ?_⟩
    rw [show (2 : Nat) ^ m = 2 ^ p * 2 ^ (m - p) by rw [← Nat.pow_add]; congr 1; omega, Nat.mul_mod_mul_left]
/-- Two lists of bytes that differ by a burst. -/
structure Burst (s t : List Nat) : Prop where
  len : s.length = t.length
  bs : Byt s
  bt : Byt t
  ex : BurstN (valL s ^^^ valL t)
theorem Burst.take {s t : List Nat} (h : Burst s t) (k : Nat) : Burst (s.take k) (t.take k) := by
  refine ⟨by rw [List.length_take, List.length_take, h.len], h.bs.take k, h.bt.take k, ?_⟩
  rw [valL_take k h.bs, valL_take k h.bt, ← Nat.xor_mod_two_pow]
  exact h.ex.mod _
theorem Burst.drop {s t : List Nat} (h : Burst s t) (k : Nat) : Burst (s.drop k) (t.drop k) := by
  refine ⟨by rw [List.length_drop, List.length_drop, h.len], h.bs.drop k, h.bt.drop k, ?_⟩
  rw [valL_drop k h.bs, valL_drop k h.bt, ← Nat.xor_div_two_pow]
  exact h.ex.div _
/-- Bytes with their own sum behind stay what they are, or their sum does not fit. -/
theorem Burst.valid {x y c d : List Nat} (h : Burst (x ++ c) (y ++ d)) (hl : x.length = y.length) (hc : laidC x = c) (hd : laidC y = d) : x ++ c = y ++ d := by
  have hcl : c.length = 4 := by rw [← hc]; exact laidC_len x
  have hdl : d.length = 4 := by rw [← hd]; exact laidC_len y
  have hx := h.bs.left
  have hy := h.bt.left
  have e1 : (x ++ c).take x.length = x := List.take_left
  have e2 : (x ++ c).drop x.length = c := List.drop_left
  have e3 : (y ++ d).take x.length = y := by rw [hl]; exact List.take_left
  have e4 : (y ++ d).drop x.length = d := by rw [hl]; exact List.drop_left
  obtain ⟨E, hE⟩ : ∃ E, E = valL (x ++ c) ^^^ valL (y ++ d) := ⟨_, rfl⟩
  have hX : valL x ^^^ valL y = E % 2 ^ (8 * x.length) := by
    have a := valL_take x.length h.bs
    have b := valL_take x.length h.bt
    rw [e1] at a
    rw [e3] at b
    rw [a, b, ← Nat.xor_mod_two_pow, hE]
  have hC : valL c ^^^ valL d = E / 2 ^ (8 * x.length) := by
    have a := valL_drop x.length h.bs
    have b := valL_drop x.length h.bt
    rw [e2] at a
    rw [e4] at b
    rw [a, b, ← Nat.xor_div_two_pow, hE]
  have hrel : valL c ^^^ valL d = itS (8 * x.length) (valL x ^^^ valL y) := by
    rw [← hc, ← hd, valL_laid hx, valL_laid hy, ← hl, itS_xor, itS_xor, itS_xor]
    generalize itS (8 * x.length) 4294967295 = M
    generalize itS (8 * x.length) (valL x) = a
    generalize itS (8 * x.length) (valL y) = b
    rw [show 4294967295 ^^^ (M ^^^ a) ^^^ (4294967295 ^^^ (M ^^^ b)) = (4294967295 ^^^ 4294967295) ^^^ ((M ^^^ M) ^^^ (a ^^^ b)) by ac_rfl, Nat.xor_self, Nat.xor_self, Nat.zero_xor, Nat.zero_xor]
  have h0 : itS (8 * x.length) E = 0 := by
    have hs : E = 2 ^ (8 * x.length) * (E / 2 ^ (8 * x.length)) ^^^ E % 2 ^ (8 * x.length) := by
      rw [← xor_split (Nat.mod_lt _ (Nat.two_pow_pos _))]
      exact (Nat.div_add_mod E _).symm
    rw [hs, itS_xor, itS_pow, ← hX, ← hC, hrel, Nat.xor_self]
  have hz : E = 0 := by
    obtain ⟨p, b, hb, he⟩ := h.ex
    rw [← hE] at he
    rw [he] at h0
    have hb0 : b = 0 := by
      by_cases hp : 8 * x.length ≤ p
      · rw [show (2 : Nat) ^ p = 2 ^ (8 * x.length) * 2 ^ (p - 8 * x.length) by rw [← Nat.pow_add]; congr 1; omega, Nat.mul_assoc, itS_pow] at h0
        rcases Nat.mul_eq_zero.1 h0 with h1 | h1
        · have := Nat.two_pow_pos (p - 8 * x.length); omega
        · exact h1
      · rw [show 8 * x.length = p + (8 * x.length - p) by omega, itS_add, itS_pow] at h0
        exact itS_zero hb h0
    rw [he, hb0, Nat.mul_zero]
  refine valL_inj h.bs h.bt h.len ?_
  have := congrArg (fun z => z ^^^ valL (y ++ d)) (hE.symm.trans hz)
  simpa [Nat.xor_assoc] using this
end Go.Proofs.YtnlepoplncjliaaGreatDoor

namespace Go.Proofs.YtnlepoplncjliaaGreatDoor
open Go.RowKit

/-- What is whole behind a burst is what it was. -/
theorem Burst.frame {d r t : List Nat} (h : Burst (frameN d ++ r) t) (hd : Byt d) (hdl : d.length ≤ 131072) (hw : (openN t).2.2 = 0) : t.take (d.length + 12) = frameN d := by
  have hfl := frameN_len d
  have htl : t.length = d.length + 12 + r.length := by rw [← h.len, List.length_append, hfl]
  obtain ⟨X, hX⟩ : ∃ X, X = beB 4 d.length := ⟨_, rfl⟩
  have hXl : X.length = 4 := by rw [hX, beB_len]
  have hf : frameN d ++ r = (X ++ laidC X) ++ ((d ++ laidC d) ++ r) := by unfold frameN; rw [← hX]; simp
  have hv : valB X = d.length := by rw [hX]; exact valB_be (by rw [show (256 : Nat) ^ 4 = 4294967296 by decide]; omega)
  unfold openN at hw
  split at hw
  · cases hw
  rename_i h1
  split at hw
  · cases hw
  rename_i h2
  split at hw
  · cases hw
  rename_i h3
  split at hw
  · cases hw
  rename_i h4
  have hla : laidC (t.take 4) = (t.drop 4).take 4 := by
    by_cases e : laidC (t.take 4) = (t.drop 4).take 4
    · exact e
    · exact absurd (.inl e) h2
  have e8 : (frameN d ++ r).take 8 = X ++ laidC X := by rw [hf]; exact List.take_left' (by rw [List.length_append, hXl, laidC_len])
  have t8 : t.take 8 = t.take 4 ++ (t.drop 4).take 4 := by
    rw [show (8 : Nat) = 4 + 4 from rfl, List.take_add]
  have b8 := h.take 8
  rw [e8, t8] at b8
  have q8 := b8.valid (by rw [hXl, List.length_take]; omega) rfl hla
  have qX : t.take 4 = X := by
    have := congrArg (List.take 4) q8
    rw [List.take_left' hXl, List.take_left' (by rw [List.length_take]; omega)] at this
    exact this.symm
  rw [qX, hv] at h4 h3
  have hlb : laidC ((t.drop 8).take d.length) = (t.drop (8 + d.length)).take 4 := by
    by_cases e : laidC ((t.drop 8).take d.length) = (t.drop (8 + d.length)).take 4
    · exact e
    · exact absurd e h4
  have eb : ((frameN d ++ r).drop 8).take (d.length + 4) = d ++ laidC d := by
    rw [hf, List.drop_left' (by rw [List.length_append, hXl, laidC_len])]
    exact List.take_left' (by rw [List.length_append, laidC_len])
  have tb : (t.drop 8).take (d.length + 4) = (t.drop 8).take d.length ++ (t.drop (8 + d.length)).take 4 := by
    rw [List.take_add, List.drop_drop]
  have bb := (h.drop 8).take (d.length + 4)
  rw [eb, tb] at bb
  have qb := bb.valid (by rw [List.length_take, List.length_drop]; omega) rfl hlb
  have : t.take (d.length + 12) = t.take 8 ++ (t.drop 8).take (d.length + 4) := by
    rw [show d.length + 12 = 8 + (d.length + 4) by omega, List.take_add]
  rw [this, tb, ← qb, t8, ← q8]
  unfold frameN
  rw [← hX]
  simp
/-- Frames behind a burst: the same, or fewer are whole. -/
theorem frames_burst : ∀ (l : List (List Nat)) (f : Nat) (t : List Nat), (∀ s ∈ l, Byt s ∧ s.length ≤ 131072) → Burst (framesN l) t → t.length ≤ f → t = framesN l ∨ (allGo f t).1.length < l.length
  | [], f, t, _, h, _ => by
    left
    have := h.len
    exact List.eq_nil_of_length_eq_zero (by rw [← this]; rfl)
  | d :: l, f, t, hs, h, hf => by
    obtain ⟨hd, hdl⟩ := hs d List.mem_cons_self
    have e : framesN (d :: l) = frameN d ++ framesN l := by simp [framesN]
    rw [e] at h
    have hfl := frameN_len d
    have htl : t.length = d.length + 12 + (framesN l).length := by rw [← h.len, List.length_append, hfl]
    obtain ⟨f, rfl⟩ : ∃ k, f = k + 1 := ⟨f - 1, by omega⟩
    have hne : t ≠ [] := fun h0 => by
      rw [h0] at htl
      have : ([] : List Nat).length = 0 := rfl
      omega
    rw [allGo, if_neg hne]
    by_cases hw : (openN t).2.2 = 0
    · have q := h.frame hd hdl hw
      have ht : t = frameN d ++ t.drop (d.length + 12) := by rw [← q, List.take_append_drop]
      have ho := openN_frame (s := d) (t.drop (d.length + 12)) hdl
      rw [← ht] at ho
      have hb := h.drop (d.length + 12)
      rw [List.drop_left' hfl] at hb
      rw [if_neg (by omega), ho]
      rcases frames_burst l f _ (fun s h2 => hs s (List.mem_cons_of_mem _ h2)) hb (by rw [List.length_drop]; omega) with h1 | h1
      · left
        rw [ht, h1, e]
      · right
        simp only [List.length_cons]
        omega
    · right
      rw [if_pos hw]
      simp
theorem cnt_burst {a : Nat × Bool} {n K : Nat} {x : List Nat} (h : Burst (markN n) x) (hn : n ≤ K) (hK : K ≤ 131072) (ha : a.1 ≤ K) : (cntStep a x).1 ≤ K ∧ (cntStep a x).2 = a.2 := by
  unfold cntStep
  split
  · exact ⟨ha, rfl⟩
  · rename_i h1
    have hx : x = markN (valB (x.take 8)) := by
      by_cases e : x = markN (valB (x.take 8))
      · exact e
      · exact absurd (.inr e) h1
    obtain ⟨v, hv⟩ : ∃ v, v = valB (x.take 8) := ⟨_, rfl⟩
    rw [← hv] at hx
    have hb : Burst (beB 8 n ++ laidC (beB 8 n)) (beB 8 v ++ laidC (beB 8 v)) := by
      have h2 := h
      rw [hx] at h2
      exact h2
    have q := hb.valid (by rw [beB_len, beB_len]) rfl rfl
    have qx : x = markN n := by rw [hx]; exact q.symm
    have hvn : valB (x.take 8) = n := by rw [qx]; exact valB_mark (by omega)
    rw [hvn]
    rw [if_neg (by omega)]
    split
    · exact ⟨by simp only; omega, rfl⟩
    · exact ⟨ha, rfl⟩
theorem cntGo_burst : ∀ (ns : List Nat) (f : Nat) (a : Nat × Bool) (t : List Nat) (K : Nat), (∀ n ∈ ns, n ≤ K) → K ≤ 131072 → a.1 ≤ K → Burst (marksL ns) t → (cntGo f a t).1 ≤ K ∧ (cntGo f a t).2 = a.2
  | ns, 0, a, t, K, _, _, ha, _ => ⟨ha, rfl⟩
  | [], f + 1, a, t, K, _, _, ha, h => by
    have ht : t.length = 0 := by rw [← h.len]; rfl
    rw [cntGo, if_neg (by omega)]
    exact ⟨ha, rfl⟩
  | n :: ns, f + 1, a, t, K, hn, hK, ha, h => by
    have e : marksL (n :: ns) = markN n ++ marksL ns := by simp [marksL]
    rw [e] at h
    have hl := markN_len n
    have htl : t.length = 12 + (marksL ns).length := by rw [← h.len, List.length_append, hl]
    have h1 := h.take 12
    rw [List.take_left' hl] at h1
    have h2 := h.drop 12
    rw [List.drop_left' hl] at h2
    have hs := cnt_burst (a := a) h1 (hn n List.mem_cons_self) hK ha
    rw [cntGo, if_pos (by omega)]
    have := cntGo_burst ns f (cntStep a (t.take 12)) (t.drop 12) K (fun m hm => hn m (List.mem_cons_of_mem _ hm)) hK hs.1 h2
    exact ⟨this.1, by rw [this.2, hs.2]⟩
theorem countN_burst {k : Nat} {t : List Nat} (hk : k ≤ 131072) (h : Burst (marksN k) t) : (countN t).1 ≤ k ∧ (countN t).2 = false := by
  unfold marksN at h
  exact cntGo_burst _ _ _ _ k (fun n hn => by
    obtain ⟨i, hi, rfl⟩ := List.mem_map.1 hn
    have := List.mem_range.1 hi
    omega) hk (Nat.zero_le _) h
end Go.Proofs.YtnlepoplncjliaaGreatDoor

namespace Go.Proofs.YtnlepoplncjliaaGreatDoor
open Go.RowKit

theorem rename_calm {D : Dk} {a b : List Nat} {f : Fil} (hc : D.calm) (hn : (D.files.map (·.1)).Nodup) (ha : nameOk a = true) (hb : nameOk b = true) (hf : D.get a = some f) (hne : a ≠ b) :
    D.thereE [a, b] a = 0 ∧ (D.rename a b).calm ∧ ((D.rename a b).files.map (·.1)).Nodup ∧ (D.rename a b).room = D.room ∧ (D.rename a b).used ≤ D.used ∧ (D.rename a b).files.length ≤ D.files.length ∧ ∀ x, (D.rename a b).get x = if x = b then some f else if x = a then none else D.get x := by
  have h0 : D.thereE [a, b] a = 0 := by rw [thereE_calm hc (by simp [ha, hb]), hf]; rfl
  have ht := tick_calm hc
  have hR : D.rename a b = { (D.wipe b).wipe a with files := ((D.wipe b).wipe a).files ++ [(b, f)] } := by
    unfold Dk.rename
    rw [if_neg (by rintro (h | h); exact h h0; exact hne h), hf, ht]
  have hn1 : ((D.wipe b).files.map (·.1)).Nodup := hn.sublist (List.Sublist.map _ List.filter_sublist)
  have hn2 : (((D.wipe b).wipe a).files.map (·.1)).Nodup := hn1.sublist (List.Sublist.map _ List.filter_sublist)
  have hg1 : (D.wipe b).get a = some f := by rw [wipe_get, if_neg hne, hf]
  have hfo : (D.wipe b).fileOf a = f := by rw [fileOf_eq, hg1]; rfl
  have hu1 := wipe_used (nm := a) hn1
  rw [hfo] at hu1
  have hu2 := wipe_used (nm := b) hn
  have hnb : ((D.wipe b).wipe a).get b = none := by rw [wipe_get, if_neg (fun e => hne e.symm), wipe_get, if_pos rfl]
  refine ⟨h0, ?_, ?_, by rw [hR]; rfl, ?_, ?_, fun x => ?_⟩
  · rw [hR]; exact ⟨hc.off, hc.armed⟩
  · rw [hR]
    show ((((D.wipe b).wipe a).files ++ [(b, f)]).map (·.1)).Nodup
    rw [List.map_append, List.nodup_append]
    refine ⟨hn2, by simp, ?_⟩
    intro y hy z hz
    simp at hz
    subst hz
    intro e
    subst e
    rw [mem_names, hnb] at hy
    cases hy
  · rw [hR]
    show ((usedL (((D.wipe b).wipe a).files ++ [(b, f)]) : Nat) : Int) ≤ _
    rw [usedL_app]
    have e2 : usedL [(b, f)] = f.data.length := by simp [usedL]
    have e3 : ((usedL ((D.wipe b).wipe a).files : Nat) : Int) = ((D.wipe b).wipe a).used := rfl
    rw [e2]
    omega
  · rw [hR]
    show (((D.wipe b).wipe a).files ++ [(b, f)]).length ≤ _
    have h3 : (a, f) ∈ (D.wipe b).files := by
      unfold Dk.wipe
      rw [List.mem_filter]
      exact ⟨get_mem hf, by simpa using hne⟩
    have h4 : ((D.wipe b).wipe a).files.length < (D.wipe b).files.length := by
      show ((D.wipe b).files.filter _).length < _
      rw [List.length_filter_lt_length_iff_exists]
      exact ⟨(a, f), h3, by simp⟩
    have h5 : (D.wipe b).files.length ≤ D.files.length := List.length_filter_le _ _
    rw [List.length_append, List.length_singleton]
    omega
  · rw [hR]
    have hap : Dk.get { (D.wipe b).wipe a with files := ((D.wipe b).wipe a).files ++ [(b, f)] } x = (((D.wipe b).wipe a).get x).or (if x = b then some f else none) := by
      unfold Dk.get
      show ((((D.wipe b).wipe a).files ++ [(b, f)]).find? _).map _ = _
      rw [List.find?_append]
      cases e1 : ((D.wipe b).wipe a).files.find? (fun p => decide (p.1 = x)) with
      | some p => rfl
      | none =>
        by_cases e : x = b
        · subst e
          rw [if_pos rfl]
          simp
        · rw [if_neg e]
          rw [List.find?_cons_of_neg (by simpa using fun e2 => e e2.symm)]
          rfl
    rw [hap]
    by_cases e : x = b
    · subst e
      rw [if_pos rfl, if_pos rfl, hnb]
      rfl
    · rw [if_neg e, if_neg e, Option.or_none, wipe_get, wipe_get, if_neg e]
/-- A log whose marks tell no more than there is. -/
structure SoftIs (D : Dk) (nm : List Nat) (segs : List (Nat × List (List Nat))) : Prop where
  calm : D.calm
  nd : (D.files.map (·.1)).Nodup
  inc : (segs.map (·.1)).Pairwise (· < ·)
  le : ∀ s ∈ segs, s.1 ≤ 999999
  recs : ∀ s ∈ segs, (∀ r ∈ s.2, r.length ≤ 131072)
  log : ∀ s ∈ segs, D.datN (fileN nm s.1 logK) = framesN s.2
  ack : ∀ s ∈ segs, (countN (D.datN (fileN nm s.1 ackK))).1 ≤ s.2.length ∧ (countN (D.datN (fileN nm s.1 ackK))).2 = false
  no : ∀ s ∈ segs, D.get (fileN nm s.1 newK) = none
  few : D.files.length + segs.length < 199
  room : 12 * (segs.length : Int) ≤ D.room - D.used
end Go.Proofs.YtnlepoplncjliaaGreatDoor

namespace Go.Proofs.YtnlepoplncjliaaGreatDoor
open Go.RowKit

/-- Cells that hold bits. -/
structure Bits (cs : Array Value) (f : Nat → Bool) : Prop where
  size : cs.size = 32
  at_ : ∀ i, i < 32 → cs[i]? = some (.bool (f i))
theorem Bits.cast {cs : Array Value} {f g : Nat → Bool} (h : Bits cs f) (e : ∀ i, i < 32 → f i = g i) : Bits cs g := ⟨h.size, fun i hi => by rw [h.at_ i hi, e i hi]⟩
theorem Bits.set {cs : Array Value} {f : Nat → Bool} (h : Bits cs f) (i : Nat) (v : Bool) : Bits (cs.setIfInBounds i (.bool v)) (fun j => if j = i then v else f j) :=
  ⟨by rw [Array.size_setIfInBounds]; exact h.size, fun j hj => by
    rw [Array.getElem?_setIfInBounds]
    by_cases e : i = j
    · subst e
      rw [if_pos rfl, if_pos (by rw [h.size]; exact hj), if_pos rfl]
    · rw [if_neg e, if_neg (fun h => e h.symm)]
      exact h.at_ j hj⟩
/-- A register behind the first b bits of a byte. -/
def byR (r c b : Nat) : Nat := itS b (r ^^^ (c % 2 ^ b))
end Go.Proofs.YtnlepoplncjliaaGreatDoor

namespace Go.Proofs.YtnlepoplncjliaaGreatDoor
open Go.RowKit

end Go.Proofs.YtnlepoplncjliaaGreatDoor

namespace Go.Proofs.YtnlepoplncjliaaGreatDoor
open Go.RowKit

end Go.Proofs.YtnlepoplncjliaaGreatDoor

namespace Go.Proofs.YtnlepoplncjliaaGreatDoor
open Go.RowKit

/-- One mark more, as the document has it. -/
def cntRef (a : Nat × Bool) (x : List Nat) : Nat × Bool :=
  if 4294967296 ≤ valB (x.take 8) then (if valB (x.take 8) - 4294967296 ≤ 131072 ∧ laidC (x.take 8) = x.drop 8 then (max a.1 (valB (x.take 8) - 4294967296), true) else a)
  else (if valB (x.take 8) ≤ 131072 ∧ laidC (x.take 8) = x.drop 8 then (max a.1 (valB (x.take 8)), a.2) else a)
end Go.Proofs.YtnlepoplncjliaaGreatDoor

namespace Go.Proofs.YtnlepoplncjliaaGreatDoor
open Go.RowKit

/-- A segment's records, as the document has them; whether it is to be sealed; whether it is sound. -/
def knownN (t : List Nat × List Nat) : List (List Nat) × Bool × Bool :=
  if (allN t.1).1.length < (countN t.2).1 then ([], false, false)
  else if (countN t.2).2 = true then ((allN t.1).1.take (countN t.2).1, false, true)
  else ((allN t.1).1, decide ((countN t.2).1 < (allN t.1).1.length ∨ (allN t.1).2.1 < t.1.length), true)
end Go.Proofs.YtnlepoplncjliaaGreatDoor

namespace Go.Proofs.YtnlepoplncjliaaGreatDoor
open Go.RowKit

theorem again_full {D : Dk} {nm : List Nat} {n c : Nat} (hc : D.calm) (hn : (D.files.map (·.1)).Nodup) (hnl : nm.length ≤ 8) (hn6 : n ≤ 999999) (hfl : D.files.length + 1 < 200) (hroom : 12 ≤ D.room - D.used) :
    (D.again nm n c).2 = 0 ∧ (D.again nm n c).1.calm ∧ ((D.again nm n c).1.files.map (·.1)).Nodup ∧ (D.again nm n c).1.room = D.room ∧ (D.again nm n c).1.used ≤ D.used + 12 ∧ (D.again nm n c).1.files.length ≤ D.files.length + 1 ∧ ∀ x, (D.again nm n c).1.get x = if x = fileN nm n ackK then some (full (markN (4294967296 + c))) else if x = fileN nm n newK then none else D.get x := by
  have hfr := name_ok (k := newK) hnl hn6 rfl
  have hak := name_ok (k := ackK) hnl hn6 rfl
  have hne : fileN nm n newK ≠ fileN nm n ackK := fun e => by
    have := (fileN_inj hn6 hn6 e).2
    revert this
    decide
  obtain ⟨a1, a2, a3, a4, a5, a6, a7⟩ := del_calm hc hn hfr
  unfold Dk.again
  rw [if_neg (by omega), if_neg (by omega)]
  obtain ⟨fr, hfr0⟩ : ∃ x, x = fileN nm n newK := ⟨_, rfl⟩
  obtain ⟨ak, hak0⟩ : ∃ x, x = fileN nm n ackK := ⟨_, rfl⟩
  rw [← hfr0] at hfr hne a1 a2 a3 a4 a5 a6 a7
  rw [← hak0] at hak hne
  rw [← hfr0, ← hak0]
  obtain ⟨E, hE⟩ : ∃ E, E = D.delete fr := ⟨_, rfl⟩
  rw [← hE] at a2 a3 a4 a5 a6 a7
  rw [← hE]
  have hgE : E.get fr = none := by rw [a7, if_pos rfl]
  have hfE : E.fileOf fr = ⟨[], 0⟩ := by rw [fileOf_eq, hgE]; rfl
  obtain ⟨M, hM⟩ : ∃ M, M = markN (4294967296 + c) := ⟨_, rfl⟩
  have hMl : M.length = 12 := by rw [hM, markN_len]
  obtain ⟨b1, b2, b3, b4, b5, b6, b7, b8⟩ := app_sync (D := E) (a := fr) (s := M) a2 a3 hfr (.inr (by omega)) (by rw [hfE]; show 0 + M.length ≤ _; omega) (by omega)
  unfold Dk.fresh
  rw [← hM, if_neg (by omega), if_neg (by omega)]
  obtain ⟨G, hG⟩ : ∃ G, G = (E.append fr M).sync fr := ⟨_, rfl⟩
  rw [← hG] at b3 b4 b5 b6 b7 b8
  rw [← hG]
  have hgG : G.get fr = some (full M) := by rw [b8, if_pos rfl, hfE]; rfl
  obtain ⟨c1, c2, c3, c4, c5, c6, c7⟩ := rename_calm b3 b4 hfr hak hgG hne
  refine ⟨c1, c2, c3, by rw [c4, b5, a4], ?_, ?_, fun x => ?_⟩
  · show (G.rename fr ak).used ≤ _
    omega
  · show (G.rename fr ak).files.length ≤ _
    omega
  · show (G.rename fr ak).get x = _
    rw [c7]
    by_cases h1 : x = ak
    · rw [if_pos h1, if_pos h1]
    · rw [if_neg h1, if_neg h1]
      by_cases h2 : x = fr
      · rw [if_pos h2, if_pos h2]
      · rw [if_neg h2, if_neg h2, b8, if_neg h2, a7, if_neg h2]
/-- Segments, with what the document has of them. -/
def segsT : Nat → List (List Nat × List Nat) → List (Nat × List (List Nat))
  | _, [] => []
  | i, t :: r => (i, (knownN t).1) :: segsT (i + 1) r
structure TwoIs (D : Dk) (nm : List Nat) (i : Nat) (ts : List (List Nat × List Nat)) : Prop where
  calm : D.calm
  nd : (D.files.map (·.1)).Nodup
  le : i + ts.length ≤ 999999
  log : ∀ j t, ts[j]? = some t → D.datN (fileN nm (i + j) logK) = t.1
  ack : ∀ j t, ts[j]? = some t → ∃ f, D.get (fileN nm (i + j) ackK) = some f ∧ f.data = t.2
  few : D.files.length + ts.length < 199
  room : 12 * (ts.length : Int) ≤ D.room - D.used
theorem TwoIs.step {D D2 : Dk} {nm : List Nat} {i : Nat} {t : List Nat × List Nat} {r : List (List Nat × List Nat)} (h : TwoIs D nm i (t :: r)) (hc : D2.calm) (hn : (D2.files.map (·.1)).Nodup) (hr : D2.room = D.room) (hu : D2.used ≤ D.used + 12) (hf : D2.files.length ≤ D.files.length + 1) (hg : ∀ n k, n ≤ 999999 → n ≠ i → D2.get (fileN nm n k) = D.get (fileN nm n k)) : TwoIs D2 nm (i + 1) r := by
  have hfew := h.few
  have hroom := h.room
  have hle := h.le
  simp only [List.length_cons] at hfew hroom hle
  have hg' : ∀ j t, r[j]? = some t → ∀ k, D2.get (fileN nm (i + 1 + j) k) = D.get (fileN nm (i + (j + 1)) k) := fun j t hj k => by
    have h1 := (List.getElem?_eq_some_iff.1 hj).1
    rw [show i + 1 + j = i + (j + 1) by omega]
    exact hg _ _ (by omega) (by omega)
  refine ⟨hc, hn, by omega, fun j t hj => ?_, fun j t hj => ?_, by omega, by omega⟩
  · have := h.log (j + 1) t (by rw [List.getElem?_cons_succ]; exact hj)
    unfold Dk.datN at this ⊢
    rw [hg' j t hj]
    exact this
  · rw [hg' j t hj]
    exact h.ack (j + 1) t (by rw [List.getElem?_cons_succ]; exact hj)
theorem seg_two {D : Dk} {nm : List Nat} {i : Nat} {t : List Nat × List Nat} {r : List (List Nat × List Nat)} (hnl : nm.length ≤ 8) (h : TwoIs D nm i (t :: r)) :
    if (knownN t).2.2 = true then ∃ D2, segN D nm i = (D2, 0, (knownN t).1) ∧ TwoIs D2 nm (i + 1) r ∧ (∀ n k, n ≤ 999999 → n ≠ i → D2.get (fileN nm n k) = D.get (fileN nm n k)) ∧ ∃ f, D2.get (fileN nm i ackK) = some f ∧ f.data = if (knownN t).2.1 then markN (4294967296 + (knownN t).1.length) else t.2
    else segN D nm i = (D, 9, []) := by
  have hlog := h.log 0 t rfl
  obtain ⟨f, hf, hfd⟩ := h.ack 0 t rfl
  rw [Nat.add_zero] at hlog hf
  have hack : D.datN (fileN nm i ackK) = t.2 := by unfold Dk.datN; rw [hf, ← hfd]; rfl
  have hfew := h.few
  have hroom := h.room
  have hle := h.le
  simp only [List.length_cons] at hfew hroom hle
  have same : TwoIs D nm (i + 1) r := h.step h.calm h.nd rfl (by omega) (by omega) (fun _ _ _ _ => rfl)
  unfold segN knownN
  rw [hlog, hack]
  by_cases h1 : (allN t.1).1.length < (countN t.2).1
  · rw [if_pos h1, if_pos h1, if_neg (by simp)]
  rw [if_neg h1, if_neg h1]
  by_cases h2 : (countN t.2).2 = true
  · rw [if_pos h2, if_pos h2, if_pos rfl]
    exact ⟨D, rfl, same, fun _ _ _ _ => rfl, f, hf, hfd⟩
  rw [if_neg h2, if_neg h2, if_pos rfl]
  by_cases h3 : (countN t.2).1 < (allN t.1).1.length ∨ (allN t.1).2.1 < t.1.length
  · rw [if_pos h3]
    obtain ⟨a1, a2, a3, a4, a5, a6, a7⟩ := again_full (c := (allN t.1).1.length) h.calm h.nd hnl (show i ≤ 999999 by omega) (by omega) (by omega)
    have hg : ∀ n k, n ≤ 999999 → n ≠ i → (D.again nm i (allN t.1).1.length).1.get (fileN nm n k) = D.get (fileN nm n k) := fun n k hn hni => by
      rw [a7, if_neg (fun e => hni (fileN_inj hn (by omega) e).1), if_neg (fun e => hni (fileN_inj hn (by omega) e).1)]
    refine ⟨(D.again nm i (allN t.1).1.length).1, by rw [a1], h.step a2 a3 a4 a5 a6 hg, hg, ?_⟩
    rw [a7, if_pos rfl]
    refine ⟨_, rfl, ?_⟩
    rw [if_pos (by simpa using h3)]
    rfl
  · rw [if_neg h3]
    refine ⟨D, rfl, same, fun _ _ _ _ => rfl, f, hf, ?_⟩
    rw [if_neg (by simpa using h3)]
    exact hfd
theorem openGo_two {nm : List Nat} (hnl : nm.length ≤ 8) : ∀ (ts : List (List Nat × List Nat)) (i : Nat) (D : Dk) (acc : List (Nat × List Nat)) (num : Nat), TwoIs D nm i ts → (∀ t ∈ ts, (knownN t).2.2 = true) →
    ∃ D', openGo nm (List.range' i ts.length) D acc num = (D', 0, acc ++ recsOf (segsT i ts), if ts = [] then num else i + ts.length) ∧ D'.off = false ∧ (∀ n k, n < i → D'.get (fileN nm n k) = D.get (fileN nm n k)) ∧ ∀ j t, ts[j]? = some t → ∃ f, D'.get (fileN nm (i + j) ackK) = some f ∧ f.data = if (knownN t).2.1 then markN (4294967296 + (knownN t).1.length) else t.2
  | [], i, D, acc, num, h, _ => ⟨D, by simp [openGo, recsOf, segsT], h.calm.off, fun _ _ _ => rfl, fun j t hj => by simp at hj⟩
  | t :: r, i, D, acc, num, h, hk => by
    have hs := seg_two hnl h
    rw [if_pos (hk t List.mem_cons_self)] at hs
    obtain ⟨D2, s1, s2, s3, s4⟩ := hs
    have hle := h.le
    simp only [List.length_cons] at hle
    obtain ⟨D', o1, o2, o3, o4⟩ := openGo_two hnl r (i + 1) D2 (acc ++ (knownN t).1.map fun x => (i, x)) (i + 1) s2 (fun x hx => hk x (List.mem_cons_of_mem _ hx))
    refine ⟨D', ?_, o2, fun n k hn => ?_, fun j x hj => ?_⟩
    · rw [List.length_cons, List.range'_succ, openGo, s1, if_neg (by simp)]
      show openGo nm (List.range' (i + 1) r.length) D2 _ _ = _
      rw [o1]
      have e : recsOf (segsT i (t :: r)) = ((knownN t).1.map fun x => (i, x)) ++ recsOf (segsT (i + 1) r) := by simp [recsOf, segsT]
      have e2 : (if t :: r = [] then num else i + (t :: r).length) = i + (r.length + 1) := if_neg (by simp)
      have e3 : (if r = [] then i + 1 else i + 1 + r.length) = i + (r.length + 1) := by
        by_cases hr : r = []
        · rw [if_pos hr, hr]; rfl
        · rw [if_neg hr]; omega
      rw [e, List.append_assoc, e3]
      rw [List.length_cons] at e2
      rw [e2]
    · rw [o3 n k (by omega), s3 n k (by omega) (by omega)]
    · cases j with
      | zero =>
        simp at hj
        subst hj
        rw [Nat.add_zero, o3 i ackK (by omega)]
        exact s4
      | succ j =>
        rw [show i + (j + 1) = i + 1 + j by omega]
        exact o4 j x (by rw [List.getElem?_cons_succ] at hj; exact hj)
theorem openGo_two_bad {nm : List Nat} (hnl : nm.length ≤ 8) : ∀ (ts : List (List Nat × List Nat)) (i : Nat) (D : Dk) (acc : List (Nat × List Nat)) (num : Nat), TwoIs D nm i ts → (∃ t ∈ ts, (knownN t).2.2 = false) →
    ∃ D', openGo nm (List.range' i ts.length) D acc num = (D', 9, [], 0)
  | [], _, _, _, _, _, ⟨t, ht, _⟩ => by cases ht
  | t :: r, i, D, acc, num, h, hk => by
    have hs := seg_two hnl h
    by_cases h1 : (knownN t).2.2 = true
    · rw [if_pos h1] at hs
      obtain ⟨D2, s1, s2, s3, s4⟩ := hs
      obtain ⟨x, hx, hx2⟩ := hk
      have hxr : x ∈ r := by
        rcases List.mem_cons.1 hx with e | e
        · rw [e, h1] at hx2; cases hx2
        · exact e
      obtain ⟨D', o1⟩ := openGo_two_bad hnl r (i + 1) D2 (acc ++ (knownN t).1.map fun x => (i, x)) (i + 1) s2 ⟨x, hxr, hx2⟩
      refine ⟨D', ?_⟩
      rw [List.length_cons, List.range'_succ, openGo, s1, if_neg (by simp)]
      exact o1
    · rw [if_neg h1] at hs
      refine ⟨D, ?_⟩
      rw [List.length_cons, List.range'_succ, openGo, hs, if_pos (by simp)]
/-- Files appended to a new disk. -/
structure AppIs (D : Dk) (ts : List (List Nat × List Nat)) : Prop where
  calm : D.calm
  nd : (D.files.map (·.1)).Nodup
  room : D.room = 1048576
  used : D.used ≤ 4000 * (ts.length : Int)
  few : D.files.length ≤ 2 * ts.length
  log : ∀ j t, ts[j]? = some t → D.get (fileN [119] j logK) = some ⟨t.1, 0⟩
  ack : ∀ j t, ts[j]? = some t → D.get (fileN [119] j ackK) = some ⟨t.2, 0⟩
  own : ∀ x, (D.get x).isSome = true → ∃ j, j < ts.length ∧ (x = fileN [119] j logK ∨ x = fileN [119] j ackK)
theorem AppIs.nil : AppIs (Dk.new 1048576) [] := ⟨⟨rfl, rfl⟩, by simp [Dk.new], rfl, by simp [Dk.new, Dk.used, usedL], by simp [Dk.new], fun j t h => by simp at h, fun j t h => by simp at h, fun x hx => by cases hx⟩
theorem AppIs.app {D : Dk} {ts : List (List Nat × List Nat)} {t : List Nat × List Nat} (h : AppIs D ts) (hl : ts.length < 6) (h1 : t.1.length ≤ 2000) (h2 : t.2.length ≤ 2000) :
    D.appendE (fileN [119] ts.length logK) t.1 = 0 ∧ (D.append (fileN [119] ts.length logK) t.1).appendE (fileN [119] ts.length ackK) t.2 = 0 ∧ AppIs ((D.append (fileN [119] ts.length logK) t.1).append (fileN [119] ts.length ackK) t.2) (ts ++ [t]) := by
  have hlg := name_ok (nm := [119]) (n := ts.length) (k := logK) (by simp) (by omega) rfl
  have hak := name_ok (nm := [119]) (n := ts.length) (k := ackK) (by simp) (by omega) rfl
  have hfew := h.few
  have hused := h.used
  have hroom := h.room
  have hno : ∀ k, (k = logK ∨ k = ackK) → D.get (fileN [119] ts.length k) = none := fun k hk => by
    cases e : D.get (fileN [119] ts.length k) with
    | none => rfl
    | some f =>
      exfalso
      obtain ⟨j, hj, e2⟩ := h.own _ (by rw [e]; rfl)
      have : ts.length = j := by rcases e2 with e2 | e2 <;> exact (fileN_inj (by omega) (by omega) e2).1
      omega
  have hne : fileN [119] ts.length ackK ≠ fileN [119] ts.length logK := fun e => by
    have := (fileN_inj (by omega) (by omega) e).2
    revert this
    decide
  obtain ⟨lg, hlg0⟩ : ∃ x, x = fileN [119] ts.length logK := ⟨_, rfl⟩
  obtain ⟨ak, hak0⟩ : ∃ x, x = fileN [119] ts.length ackK := ⟨_, rfl⟩
  have hnl := hno logK (.inl rfl)
  have hna := hno ackK (.inr rfl)
  rw [← hlg0] at hlg hne hnl
  rw [← hak0] at hak hne hna
  rw [← hlg0, ← hak0]
  have hf1 : D.fileOf lg = ⟨[], 0⟩ := by rw [fileOf_eq, hnl]; rfl
  have E1 := appendE_calm (s := t.1) h.calm hlg (.inr (by omega)) (by rw [hf1]; show 0 + _ ≤ _; omega) (by omega)
  have g1 := get_append E1
  have c1 := append_calm (a := lg) (s := t.1) h.calm
  have n1 := append_nodup (a := lg) (s := t.1) h.nd
  have u1 := append_used h.nd E1
  have r1 := append_room D lg t.1
  have l1 := append_len D lg t.1
  rw [hf1] at g1
  obtain ⟨E, hE⟩ : ∃ E, E = D.append lg t.1 := ⟨_, rfl⟩
  rw [← hE] at g1 c1 n1 u1 r1 l1
  rw [← hE]
  have hga : E.get ak = none := by rw [g1, if_neg hne, hna]
  have hf2 : E.fileOf ak = ⟨[], 0⟩ := by rw [fileOf_eq, hga]; rfl
  have E2 := appendE_calm (s := t.2) c1 hak (.inr (by omega)) (by rw [hf2]; show 0 + _ ≤ _; omega) (by omega)
  have g2 := get_append E2
  have u2 := append_used n1 E2
  have r2 := append_room E ak t.2
  have l2 := append_len E ak t.2
  rw [hf2] at g2
  have old : ∀ j, j < ts.length → ∀ k, (k = logK ∨ k = ackK) → (E.append ak t.2).get (fileN [119] j k) = D.get (fileN [119] j k) := fun j hj k hk => by
    rw [g2, if_neg (fun e => by rw [hak0] at e; have := (fileN_inj (by omega) (by omega) e).1; omega), g1, if_neg (fun e => by rw [hlg0] at e; have := (fileN_inj (by omega) (by omega) e).1; omega)]
  refine ⟨E1, E2, ⟨append_calm c1, append_nodup n1, by rw [r2, r1, hroom], ?_, ?_, fun j x hj => ?_, fun j x hj => ?_, fun x hx => ?_⟩⟩
  · rw [u2, u1, List.length_append, List.length_singleton]
    omega
  · rw [List.length_append, List.length_singleton]
    omega
  · by_cases e : j < ts.length
    · rw [old j e _ (.inl rfl)]
      exact h.log j x (by rwa [List.getElem?_append_left e] at hj)
    · have hlt := (List.getElem?_eq_some_iff.1 hj).1
      rw [List.length_append, List.length_singleton] at hlt
      obtain rfl : j = ts.length := by omega
      rw [List.getElem?_append_right (Nat.le_refl _), Nat.sub_self] at hj
      simp at hj
      subst hj
      rw [← hlg0, g2, if_neg (fun e => hne e.symm), g1, if_pos rfl, List.nil_append]
  · by_cases e : j < ts.length
    · rw [old j e _ (.inr rfl)]
      exact h.ack j x (by rwa [List.getElem?_append_left e] at hj)
    · have hlt := (List.getElem?_eq_some_iff.1 hj).1
      rw [List.length_append, List.length_singleton] at hlt
      obtain rfl : j = ts.length := by omega
      rw [List.getElem?_append_right (Nat.le_refl _), Nat.sub_self] at hj
      simp at hj
      subst hj
      rw [← hak0, g2, if_pos rfl, List.nil_append]
  · rw [List.length_append, List.length_singleton]
    by_cases e1 : x = ak
    · exact ⟨ts.length, by omega, .inr (by rw [e1, hak0])⟩
    · rw [g2, if_neg e1, g1] at hx
      by_cases e2 : x = lg
      · exact ⟨ts.length, by omega, .inl (by rw [e2, hlg0])⟩
      · rw [if_neg e2] at hx
        obtain ⟨j, hj, e⟩ := h.own x hx
        exact ⟨j, by omega, e⟩
theorem AppIs.own_nm {D : Dk} {ts : List (List Nat × List Nat)} (h : AppIs D ts) (hl : ts.length ≤ 6) : ∀ p ∈ D.files, OwnNm [119] p.1 := by
  intro p hp
  obtain ⟨j, hj, e⟩ := h.own p.1 (mem_names.1 (List.mem_map.2 ⟨p, hp, rfl⟩))
  rcases e with e | e
  · exact ⟨j, logB, by omega, .inl rfl, e⟩
  · exact ⟨j, ackB, by omega, .inr (.inl rfl), e⟩
theorem AppIs.nums {D : Dk} {ts : List (List Nat × List Nat)} (h : AppIs D ts) (hl : ts.length ≤ 6) : numsL [119] (D.files.map (·.1)) = List.range' 0 ts.length := by
  refine inc_eq numsL_inc (by rw [← List.range_eq_range']; exact List.pairwise_lt_range) fun n => ?_
  rw [numsL_mem, ← List.range_eq_range', List.mem_range]
  constructor
  · rintro ⟨h1, h2⟩
    have key : ∀ k : List Nat, fileN [119] n (46 :: k) ∈ D.files.map (·.1) → n < ts.length := fun k hk => by
      obtain ⟨j, hj, e⟩ := h.own _ (mem_names.1 hk)
      have : n = j := by rcases e with e | e <;> exact (fileN_inj h1 (by omega) e).1
      omega
    exact h2.elim (key _) (key _)
  · intro hn
    obtain ⟨t, ht⟩ : ∃ t, ts[n]? = some t := ⟨_, List.getElem?_eq_getElem hn⟩
    refine ⟨by omega, .inl (mem_names.2 ?_)⟩
    show (D.get (fileN [119] n logK)).isSome = true
    rw [h.log n t ht]
    rfl
theorem AppIs.two {D : Dk} {ts : List (List Nat × List Nat)} (h : AppIs D ts) (hl : ts.length ≤ 6) : TwoIs D [119] 0 ts := by
  have h1 := h.few
  have h2 := h.used
  have h3 := h.room
  refine ⟨h.calm, h.nd, by omega, fun j t hj => ?_, fun j t hj => ⟨_, by rw [Nat.zero_add]; exact h.ack j t hj, rfl⟩, by omega, by omega⟩
  unfold Dk.datN
  rw [Nat.zero_add, h.log j t hj]
  rfl
theorem AppIs.opens {D : Dk} {ts : List (List Nat × List Nat)} (h : AppIs D ts) (hl : ts.length ≤ 6) (hk : ∀ t ∈ ts, (knownN t).2.2 = true) :
    ∃ D', openW D [119] = (D', 0, recsOf (segsT 0 ts), ts.length) ∧ D'.off = false ∧ ∀ j t, ts[j]? = some t → ∃ f, D'.get (fileN [119] j ackK) = some f ∧ f.data = if (knownN t).2.1 then markN (4294967296 + (knownN t).1.length) else t.2 := by
  obtain ⟨D', o1, o2, -, o4⟩ := openGo_two (by simp) ts 0 D [] 0 (h.two hl) hk
  refine ⟨D', ?_, o2, fun j t hj => by have := o4 j t hj; rwa [Nat.zero_add] at this⟩
  unfold openW
  rw [h.nums hl, o1]
  by_cases e : ts = []
  · rw [if_pos e, e]; rfl
  · rw [if_neg e, Nat.zero_add]; rfl
theorem AppIs.opens_bad {D : Dk} {ts : List (List Nat × List Nat)} (h : AppIs D ts) (hl : ts.length ≤ 6) (hk : ∃ t ∈ ts, (knownN t).2.2 = false) : ∃ D', openW D [119] = (D', 9, [], 0) := by
  obtain ⟨D', o1⟩ := openGo_two_bad (by simp) ts 0 D [] 0 (h.two hl) hk
  refine ⟨D', ?_⟩
  unfold openW
  rw [h.nums hl, o1]
end Go.Proofs.YtnlepoplncjliaaGreatDoor

namespace Go.Proofs.YtnlepoplncjliaaGreatDoor
open Go.RowKit

/-- Segments: their numbers, and what stands in their files. -/
structure GenIs (D : Dk) (nm : List Nat) (gs : List (Nat × (List Nat × List Nat))) : Prop where
  calm : D.calm
  nd : (D.files.map (·.1)).Nodup
  inc : (gs.map (·.1)).Pairwise (· < ·)
  le : ∀ g ∈ gs, g.1 ≤ 999999
  log : ∀ g ∈ gs, D.datN (fileN nm g.1 logK) = g.2.1
  ack : ∀ g ∈ gs, D.datN (fileN nm g.1 ackK) = g.2.2
  there : ∀ g ∈ gs, (D.get (fileN nm g.1 logK)).isSome = true ∨ (D.get (fileN nm g.1 ackK)).isSome = true
  own : ∀ x, (D.get x).isSome = true → ∃ g ∈ gs, x = fileN nm g.1 logK ∨ x = fileN nm g.1 ackK
  safe : ∀ x f, D.get x = some f → f.safe = f.data.length
def settle (g : Nat × (List Nat × List Nat)) : Nat × (List Nat × List Nat) := (g.1, (g.2.1, if (knownN g.2).2.1 then markN (4294967296 + (knownN g.2).1.length) else g.2.2))
def recsG (gs : List (Nat × (List Nat × List Nat))) : List (Nat × List Nat) := gs.flatMap fun g => (knownN g.2).1.map fun r => (g.1, r)
def nextG : Nat → List (Nat × (List Nat × List Nat)) → Nat
  | num, [] => num
  | _, g :: r => nextG (g.1 + 1) r
theorem GenIs.own_nm {D : Dk} {nm : List Nat} {gs : List (Nat × (List Nat × List Nat))} (h : GenIs D nm gs) : ∀ p ∈ D.files, OwnNm nm p.1 := by
  intro p hp
  obtain ⟨g, hg, e⟩ := h.own p.1 (mem_names.1 (List.mem_map.2 ⟨p, hp, rfl⟩))
  rcases e with e | e
  · exact ⟨g.1, logB, h.le g hg, .inl rfl, e⟩
  · exact ⟨g.1, ackB, h.le g hg, .inr (.inl rfl), e⟩
theorem GenIs.nums {D : Dk} {nm : List Nat} {gs : List (Nat × (List Nat × List Nat))} (h : GenIs D nm gs) : numsL nm (D.files.map (·.1)) = gs.map (·.1) := by
  refine inc_eq numsL_inc h.inc fun n => ?_
  rw [numsL_mem]
  constructor
  · rintro ⟨h1, h2⟩
    have key : ∀ k : List Nat, fileN nm n (46 :: k) ∈ D.files.map (·.1) → n ∈ gs.map (·.1) := fun k hk => by
      obtain ⟨g, hg, e⟩ := h.own _ (mem_names.1 hk)
      have : n = g.1 := by rcases e with e | e <;> exact (fileN_inj h1 (h.le g hg) e).1
      rw [this]
      exact List.mem_map.2 ⟨g, hg, rfl⟩
    exact h2.elim (key _) (key _)
  · intro hn
    obtain ⟨g, hg, rfl⟩ := List.mem_map.1 hn
    exact ⟨h.le g hg, (h.there g hg).imp (fun e => mem_names.2 e) (fun e => mem_names.2 e)⟩
theorem GenIs.put {D D2 : Dk} {nm : List Nat} {a r : List (Nat × (List Nat × List Nat))} {g : Nat × (List Nat × List Nat)} {M : List Nat} (h : GenIs D nm (a ++ g :: r)) (hc : D2.calm) (hn : (D2.files.map (·.1)).Nodup) (hg : ∀ x, D2.get x = if x = fileN nm g.1 ackK then some (full M) else if x = fileN nm g.1 newK then none else D.get x) : GenIs D2 nm (a ++ (g.1, (g.2.1, M)) :: r) := by
  have hgm : g ∈ a ++ g :: r := by simp
  have hg6 := h.le g hgm
  have hla : ∀ n, n ≤ 999999 → fileN nm n logK ≠ fileN nm g.1 ackK := fun n hn e => by
    have := (fileN_inj hn hg6 e).2
    revert this
    decide
  have hln : ∀ n, n ≤ 999999 → fileN nm n logK ≠ fileN nm g.1 newK := fun n hn e => by
    have := (fileN_inj hn hg6 e).2
    revert this
    decide
  have han : ∀ n, n ≤ 999999 → fileN nm n ackK ≠ fileN nm g.1 newK := fun n hn e => by
    have := (fileN_inj hn hg6 e).2
    revert this
    decide
  have hinc := h.inc
  rw [List.map_append, List.map_cons, List.pairwise_append, List.pairwise_cons] at hinc
  obtain ⟨i1, ⟨i2, i3⟩, i4⟩ := hinc
  have hne : ∀ t ∈ a ++ r, t.1 ≠ g.1 := fun t ht e => by
    rcases List.mem_append.1 ht with ht | ht
    · have := i4 t.1 (List.mem_map.2 ⟨t, ht, rfl⟩) g.1 (by simp)
      omega
    · have := i2 t.1 (List.mem_map.2 ⟨t, ht, rfl⟩)
      omega
  have hsub : ∀ t ∈ a ++ r, t ∈ a ++ g :: r := fun t ht => by
    rcases List.mem_append.1 ht with ht | ht
    · exact List.mem_append_left _ ht
    · exact List.mem_append_right _ (List.mem_cons_of_mem _ ht)
  have hlog : ∀ n, n ≤ 999999 → D2.get (fileN nm n logK) = D.get (fileN nm n logK) := fun n hn => by rw [hg, if_neg (hla n hn), if_neg (hln n hn)]
  have hack : ∀ t ∈ a ++ r, D2.get (fileN nm t.1 ackK) = D.get (fileN nm t.1 ackK) := fun t ht => by
    have ht6 := h.le t (hsub t ht)
    rw [hg, if_neg (fun e => hne t ht (fileN_inj ht6 hg6 e).1), if_neg (han t.1 ht6)]
  have hme : ∀ t, t ∈ a ++ (g.1, (g.2.1, M)) :: r → t = (g.1, (g.2.1, M)) ∨ t ∈ a ++ r := fun t ht => by
    rcases List.mem_append.1 ht with ht | ht
    · exact .inr (List.mem_append_left _ ht)
    · rcases List.mem_cons.1 ht with ht | ht
      · exact .inl ht
      · exact .inr (List.mem_append_right _ ht)
  refine ⟨hc, hn, ?_, fun t ht => ?_, fun t ht => ?_, fun t ht => ?_, fun t ht => ?_, fun x hx => ?_, fun x f hf => ?_⟩
  · have := h.inc
    rw [List.map_append, List.map_cons] at this ⊢
    exact this
  · rcases hme t ht with e | e
    · rw [e]; exact hg6
    · exact h.le t (hsub t e)
  · rcases hme t ht with e | e
    · rw [e]
      unfold Dk.datN
      rw [hlog g.1 hg6]
      exact h.log g hgm
    · unfold Dk.datN
      rw [hlog t.1 (h.le t (hsub t e))]
      exact h.log t (hsub t e)
  · rcases hme t ht with e | e
    · rw [e]
      unfold Dk.datN
      rw [hg, if_pos rfl]
      rfl
    · unfold Dk.datN
      rw [hack t e]
      exact h.ack t (hsub t e)
  · rcases hme t ht with e | e
    · rw [e]
      right
      rw [hg, if_pos rfl]
      rfl
    · rw [hlog t.1 (h.le t (hsub t e)), hack t e]
      exact h.there t (hsub t e)
  · have key : ∀ t, t ∈ a ++ g :: r → ∃ t' ∈ a ++ (g.1, (g.2.1, M)) :: r, t'.1 = t.1 := fun t ht => by
      rcases List.mem_append.1 ht with ht | ht
      · exact ⟨t, List.mem_append_left _ ht, rfl⟩
      · rcases List.mem_cons.1 ht with ht | ht
        · exact ⟨(g.1, (g.2.1, M)), by simp, by rw [ht]⟩
        · exact ⟨t, List.mem_append_right _ (List.mem_cons_of_mem _ ht), rfl⟩
    by_cases e1 : x = fileN nm g.1 ackK
    · exact ⟨(g.1, (g.2.1, M)), by simp, .inr e1⟩
    · rw [hg, if_neg e1] at hx
      by_cases e2 : x = fileN nm g.1 newK
      · rw [if_pos e2] at hx; cases hx
      · rw [if_neg e2] at hx
        obtain ⟨t, ht, e⟩ := h.own x hx
        obtain ⟨t', h1, h2⟩ := key t ht
        exact ⟨t', h1, by rw [h2]; exact e⟩
  · rw [hg] at hf
    split at hf
    · injection hf with hf; rw [← hf]; rfl
    · split at hf
      · cases hf
      · exact h.safe x f hf
theorem seg_gen {D : Dk} {nm : List Nat} {a r : List (Nat × (List Nat × List Nat))} {g : Nat × (List Nat × List Nat)} (hnl : nm.length ≤ 8) (h : GenIs D nm (a ++ g :: r)) (hfew : D.files.length + 1 < 200) (hroom : 12 ≤ D.room - D.used) :
    if (knownN g.2).2.2 = true then ∃ D2, segN D nm g.1 = (D2, 0, (knownN g.2).1) ∧ GenIs D2 nm (a ++ settle g :: r) ∧ D2.room = D.room ∧ D2.used ≤ D.used + 12 ∧ D2.files.length ≤ D.files.length + 1
    else segN D nm g.1 = (D, 9, []) := by
  have hgm : g ∈ a ++ g :: r := by simp
  have hlog := h.log g hgm
  have hack := h.ack g hgm
  have hsame : (knownN g.2).2.1 = false → settle g = g := fun e => by
    unfold settle
    rw [e]
    rfl
  have hset : (knownN g.2).2.1 = true → settle g = (g.1, (g.2.1, markN (4294967296 + (knownN g.2).1.length))) := fun e => by
    unfold settle
    rw [e]
    rfl
  have hk : knownN g.2 = if (allN g.2.1).1.length < (countN g.2.2).1 then ([], false, false) else if (countN g.2.2).2 = true then ((allN g.2.1).1.take (countN g.2.2).1, false, true) else ((allN g.2.1).1, decide ((countN g.2.2).1 < (allN g.2.1).1.length ∨ (allN g.2.1).2.1 < g.2.1.length), true) := rfl
  unfold segN
  rw [hlog, hack]
  by_cases h1 : (allN g.2.1).1.length < (countN g.2.2).1
  · rw [if_pos h1] at hk
    rw [if_pos h1, hk, if_neg (by simp)]
  rw [if_neg h1] at hk
  rw [if_neg h1]
  by_cases h2 : (countN g.2.2).2 = true
  · rw [if_pos h2] at hk
    rw [if_pos h2, hsame (by rw [hk]), hk, if_pos rfl]
    exact ⟨D, rfl, h, rfl, by omega, by omega⟩
  rw [if_neg h2] at hk
  rw [if_neg h2]
  by_cases h3 : (countN g.2.2).1 < (allN g.2.1).1.length ∨ (allN g.2.1).2.1 < g.2.1.length
  · rw [decide_eq_true h3] at hk
    rw [if_pos h3, hset (by rw [hk]), hk, if_pos rfl]
    obtain ⟨a1, a2, a3, a4, a5, a6, a7⟩ := again_full (c := (allN g.2.1).1.length) h.calm h.nd hnl (h.le g hgm) hfew hroom
    exact ⟨_, by rw [a1], h.put a2 a3 a7, a4, a5, a6⟩
  · rw [decide_eq_false h3] at hk
    rw [if_neg h3, hsame (by rw [hk]), hk, if_pos rfl]
    exact ⟨D, rfl, h, rfl, by omega, by omega⟩
theorem openGo_gen {nm : List Nat} (hnl : nm.length ≤ 8) : ∀ (b a : List (Nat × (List Nat × List Nat))) (D : Dk) (acc : List (Nat × List Nat)) (num : Nat), GenIs D nm (a ++ b) → D.files.length + b.length < 199 → 12 * (b.length : Int) ≤ D.room - D.used → (∀ g ∈ b, (knownN g.2).2.2 = true) →
    ∃ D', openGo nm (b.map (·.1)) D acc num = (D', 0, acc ++ recsG b, nextG num b) ∧ GenIs D' nm (a ++ b.map settle) ∧ D'.room = D.room ∧ D'.used ≤ D.used + 12 * (b.length : Int) ∧ D'.files.length ≤ D.files.length + b.length
  | [], a, D, acc, num, h, _, _, _ => ⟨D, by simp [openGo, recsG, nextG], h, rfl, by simp, by simp⟩
  | g :: r, a, D, acc, num, h, hfew, hroom, hk => by
    simp only [List.length_cons] at hfew hroom
    have hs := seg_gen hnl h (by omega) (by omega)
    rw [if_pos (hk g List.mem_cons_self)] at hs
    obtain ⟨D2, s1, s2, s3, s4, s5⟩ := hs
    have s2' : GenIs D2 nm ((a ++ [settle g]) ++ r) := by rw [List.append_assoc]; exact s2
    obtain ⟨D', o1, o2, o3, o4, o5⟩ := openGo_gen hnl r (a ++ [settle g]) D2 (acc ++ (knownN g.2).1.map fun x => (g.1, x)) (g.1 + 1) s2' (by omega) (by omega) (fun x hx => hk x (List.mem_cons_of_mem _ hx))
    refine ⟨D', ?_, ?_, by rw [o3, s3], by simp only [List.length_cons]; omega, by simp only [List.length_cons]; omega⟩
    · rw [List.map_cons, openGo, s1, if_neg (by simp)]
      show openGo nm (r.map (·.1)) D2 _ _ = _
      rw [o1]
      have e : recsG (g :: r) = ((knownN g.2).1.map fun x => (g.1, x)) ++ recsG r := by simp [recsG]
      rw [e, List.append_assoc]
      rfl
    · rw [List.map_cons]
      rw [List.append_assoc] at o2
      exact o2
theorem openGo_gen_bad {nm : List Nat} (hnl : nm.length ≤ 8) : ∀ (b a : List (Nat × (List Nat × List Nat))) (D : Dk) (acc : List (Nat × List Nat)) (num : Nat), GenIs D nm (a ++ b) → D.files.length + b.length < 199 → 12 * (b.length : Int) ≤ D.room - D.used → (∃ g ∈ b, (knownN g.2).2.2 = false) →
    ∃ D', openGo nm (b.map (·.1)) D acc num = (D', 9, [], 0)
  | [], _, _, _, _, _, _, _, ⟨g, hg, _⟩ => by cases hg
  | g :: r, a, D, acc, num, h, hfew, hroom, hk => by
    simp only [List.length_cons] at hfew hroom
    have hs := seg_gen hnl h (by omega) (by omega)
    by_cases h1 : (knownN g.2).2.2 = true
    · rw [if_pos h1] at hs
      obtain ⟨D2, s1, s2, s3, s4, s5⟩ := hs
      have s2' : GenIs D2 nm ((a ++ [settle g]) ++ r) := by rw [List.append_assoc]; exact s2
      obtain ⟨x, hx, hx2⟩ := hk
      have hxr : x ∈ r := by
        rcases List.mem_cons.1 hx with e | e
        · rw [e, h1] at hx2; cases hx2
        · exact e
      obtain ⟨D', o1⟩ := openGo_gen_bad hnl r (a ++ [settle g]) D2 (acc ++ (knownN g.2).1.map fun x => (g.1, x)) (g.1 + 1) s2' (by omega) (by omega) ⟨x, hxr, hx2⟩
      refine ⟨D', ?_⟩
      rw [List.map_cons, openGo, s1, if_neg (by simp)]
      exact o1
    · rw [if_neg h1] at hs
      refine ⟨D, ?_⟩
      rw [List.map_cons, openGo, hs, if_pos (by simp)]
theorem GenIs.opens {D : Dk} {nm : List Nat} {gs : List (Nat × (List Nat × List Nat))} (hnl : nm.length ≤ 8) (h : GenIs D nm gs) (hfew : D.files.length + gs.length < 199) (hroom : 12 * (gs.length : Int) ≤ D.room - D.used) (hk : ∀ g ∈ gs, (knownN g.2).2.2 = true) :
    ∃ D', openW D nm = (D', 0, recsG gs, nextG 0 gs) ∧ GenIs D' nm (gs.map settle) ∧ D'.room = D.room ∧ D'.used ≤ D.used + 12 * (gs.length : Int) ∧ D'.files.length ≤ D.files.length + gs.length := by
  obtain ⟨D', o1, o2, o3⟩ := openGo_gen hnl gs [] D [] 0 h hfew hroom hk
  refine ⟨D', ?_, o2, o3⟩
  unfold openW
  rw [h.nums, o1]
  rfl
theorem GenIs.opens_bad {D : Dk} {nm : List Nat} {gs : List (Nat × (List Nat × List Nat))} (hnl : nm.length ≤ 8) (h : GenIs D nm gs) (hfew : D.files.length + gs.length < 199) (hroom : 12 * (gs.length : Int) ≤ D.room - D.used) (hk : ∃ g ∈ gs, (knownN g.2).2.2 = false) :
    ∃ D', openW D nm = (D', 9, [], 0) := by
  obtain ⟨D', o1⟩ := openGo_gen_bad hnl gs [] D [] 0 h hfew hroom hk
  refine ⟨D', ?_⟩
  unfold openW
  rw [h.nums, o1]
theorem countN_seal {c : Nat} (h : c ≤ 131072) : countN (markN (4294967296 + c)) = (c, true) := by
  have hl := markN_len (4294967296 + c)
  unfold countN
  rw [hl, cntGo, if_pos (by omega), List.take_of_length_le (by omega), List.drop_eq_nil_of_le (by omega), cntStep_seal h]
  have : ∀ f (x : Nat × Bool), cntGo f x [] = x := fun f x => by cases f <;> simp [cntGo]
  rw [this]
  simp
/-- Opened again it is the same. -/
theorem known_settle {g : Nat × (List Nat × List Nat)} (h : (knownN g.2).2.2 = true) (hl : (knownN g.2).1.length ≤ 131072) : knownN (settle g).2 = ((knownN g.2).1, false, true) := by
  have hk : knownN g.2 = if (allN g.2.1).1.length < (countN g.2.2).1 then ([], false, false) else if (countN g.2.2).2 = true then ((allN g.2.1).1.take (countN g.2.2).1, false, true) else ((allN g.2.1).1, decide ((countN g.2.2).1 < (allN g.2.1).1.length ∨ (allN g.2.1).2.1 < g.2.1.length), true) := rfl
  cases hs : (knownN g.2).2.1 with
  | false =>
    have e : settle g = g := by unfold settle; rw [hs]; rfl
    rw [e]
    rw [← hs, ← h]
  | true =>
    have e : settle g = (g.1, (g.2.1, markN (4294967296 + (knownN g.2).1.length))) := by unfold settle; rw [hs]; rfl
    have h0 : (knownN g.2).1 = (allN g.2.1).1 := by
      split at hk
      · rw [hk] at hs; cases hs
      · split at hk
        · rw [hk] at hs; cases hs
        · rw [hk]
    rw [e]
    show knownN (g.2.1, markN (4294967296 + (knownN g.2).1.length)) = _
    obtain ⟨R, hR⟩ : ∃ R, R = (knownN g.2).1 := ⟨_, rfl⟩
    rw [← hR] at hl h0
    rw [← hR]
    have h5 : ∀ M, knownN (g.2.1, M) = if (allN g.2.1).1.length < (countN M).1 then ([], false, false) else if (countN M).2 = true then ((allN g.2.1).1.take (countN M).1, false, true) else ((allN g.2.1).1, decide ((countN M).1 < (allN g.2.1).1.length ∨ (allN g.2.1).2.1 < g.2.1.length), true) := fun _ => rfl
    rw [h5, countN_seal hl, ← h0, if_neg (by simp), if_pos rfl, List.take_of_length_le (Nat.le_refl _)]
end Go.Proofs.YtnlepoplncjliaaGreatDoor

