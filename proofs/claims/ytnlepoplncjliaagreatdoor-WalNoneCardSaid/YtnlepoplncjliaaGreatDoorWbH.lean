/-
  wal: read, drop, note, again. Condition: numbers within six digits, names within reach.
-/
import Derived.Test.YtnlepoplncjliaaGreatDoorWbG
namespace Go.Proofs.YtnlepoplncjliaaGreatDoor
open Go.RowKit

theorem fileN_byt {nm k : List Nat} (n : Nat) (hn : Byt nm) (hk : Byt k) : Byt (fileN nm n k) := by
  unfold fileN
  refine Byt.app (Byt.app (Byt.app hn (by intro d hd; simp at hd; omega)) (fun c hc => ?_)) hk
  have := dig6_lt n c hc
  omega
theorem fileN_len {nm k : List Nat} {n : Nat} (hn : n ≤ 999999) : (fileN nm n k).length = nm.length + 7 + k.length := by
  unfold fileN
  have := dig6_len hn
  simp only [List.length_append, List.length_singleton]
  omega
theorem logK_byt : Byt logK := by intro d hd; revert d; decide
theorem ackK_byt : Byt ackK := by intro d hd; revert d; decide
theorem newK_byt : Byt newK := by intro d hd; revert d; decide
theorem wread_any (B g0 gd : Nat) (D : Dk) (nm x : List Nat) (num count size : Int) (broken : Bool) (w : World) (k0 : Blk w g0 80 (wlCs gd nm num count size broken)) (dk : DkAt w B gd D) (hoff : D.off = false) (hx : Byt x) :
    Calls Tryz.prog 59 #[.pointer (some ⟨g0, 0, none⟩), .string (strOf x)] w fun e w' => e = .returned (.tuple #[.string (strOf (D.datN x)), .int .i64 0]) ∧ Grow w w' := by
  have bel := Below.refl w.heap.size w
  have hs : D.readS x = D.datN x := by unfold Dk.readS Dk.datN; rw [if_neg (by simp [hoff])]
  have he : D.readE x = if (D.get x).isSome then 0 else 7 := by unfold Dk.readE; rw [if_neg (by simp [hoff])]
  refine Calls.start 21 Tryz.func59 rfl rfl rfl ?_
  refine Cd.seq ?_
  refine Cd.region ?_
  refine Seq.val (Runs.assign rfl rfl) rfl rfl rfl ?_
  refine Seq.val (Runs.assign rfl rfl) rfl rfl rfl ?_
  refine Seq.nil ?_
  refine Post.weak (F' := [(0, _), (1, _), (4, _), (5, _)]) ⟨rfl, rfl, rfl, rfl, trivial⟩ ?_
  refine Post.then_ ?_
  refine Cd.seq ?_
  refine Cd.region ?_
  refine Seq.val (Runs.move rfl rfl) rfl rfl rfl ?_
  refine Seq.val (Runs.nilCheck rfl rfl) rfl rfl rfl ?_
  refine Seq.val (Runs.fieldB 0 rfl rfl Tryz.underlying80 rfl (by kernel_rfl)) rfl rfl rfl ?_
  refine Seq.val (Runs.loadB rfl rfl Tryz.underlying26 rfl k0 rfl) rfl rfl rfl ?_
  refine Seq.val (Runs.move rfl rfl) rfl rfl rfl ?_
  refine Seq.call (Enters.func rfl rfl rfl (run_enter Tryz.func21 (by kernel_rfl) rfl)) rfl rfl rfl (read_d_any B gd D x _ dk hx) ?_
  rw [hs, he]
  rintro e w5 ⟨rfl, hb5⟩
  refine ⟨_, rfl, ?_⟩
  replace bel := bel.step hb5
  replace k0 := k0.step hb5
  by_cases h0 : (D.get x).isSome = true
  · rw [if_pos h0]
    refine Seq.val (Runs.move rfl rfl) rfl rfl rfl ?_
    refine Seq.val (Runs.extract rfl rfl rfl) rfl rfl rfl ?_
    refine Seq.val (Runs.extract rfl rfl rfl) rfl rfl rfl ?_
    refine Seq.val (Runs.assign rfl rfl) rfl rfl rfl ?_
    refine Seq.val (Runs.assign rfl rfl) rfl rfl rfl ?_
    refine Seq.nil ?_
    refine Post.weak (F' := [(0, _), (1, _), (4, _), (5, _), (6, _), (7, _)]) ⟨rfl, rfl, rfl, rfl, rfl, rfl, trivial⟩ ?_
    refine Post.then_ ?_
    refine Cd.seq ?_
    refine Cd.seq ?_
    refine Cd.region ?_
    refine Seq.val (Runs.move rfl rfl) rfl rfl rfl ?_
    refine Seq.val (Runs.eqlI rfl rfl rfl) rfl rfl rfl ?_
    refine Seq.nil ?_
    refine Post.weak (F' := [(0, _), (1, _), (4, _), (5, _), (6, _), (7, _), (18, _)]) ⟨rfl, rfl, rfl, rfl, rfl, rfl, rfl, trivial⟩ ?_
    refine Post.then_ ?_
    refine Cd.condF rfl rfl ?_
    refine Cd.skip ?_
    refine Post.then_ ?_
    refine Cd.seq ?_
    refine Cd.region ?_
    refine Seq.val (Runs.move rfl rfl) rfl rfl rfl ?_
    refine Seq.val (Runs.move rfl rfl) rfl rfl rfl ?_
    refine Seq.val (Runs.assign rfl rfl) rfl rfl rfl ?_
    refine Seq.val (Runs.assign rfl rfl) rfl rfl rfl ?_
    refine Seq.nil ?_
    refine Post.weak (F' := [(0, _), (1, _), (4, _), (5, _), (6, _), (7, _), (18, _)]) ⟨rfl, rfl, rfl, rfl, rfl, rfl, rfl, trivial⟩ ?_
    refine Post.then_ ?_
    refine Cd.ret ?_
    refine Post.end2 rfl rfl rfl (.inl rfl) ?_
    exact ⟨rfl, bel⟩
  · have h1 : D.datN x = [] := by
      unfold Dk.datN
      cases e : D.get x with
      | none => rfl
      | some f => rw [e] at h0; exact absurd rfl h0
    rw [if_neg h0, h1]
    refine Seq.val (Runs.move rfl rfl) rfl rfl rfl ?_
    refine Seq.val (Runs.extract rfl rfl rfl) rfl rfl rfl ?_
    refine Seq.val (Runs.extract rfl rfl rfl) rfl rfl rfl ?_
    refine Seq.val (Runs.assign rfl rfl) rfl rfl rfl ?_
    refine Seq.val (Runs.assign rfl rfl) rfl rfl rfl ?_
    refine Seq.nil ?_
    refine Post.weak (F' := [(0, _), (1, _), (4, _), (5, _), (6, _), (7, _)]) ⟨rfl, rfl, rfl, rfl, rfl, rfl, trivial⟩ ?_
    refine Post.then_ ?_
    refine Cd.seq ?_
    refine Cd.seq ?_
    refine Cd.region ?_
    refine Seq.val (Runs.move rfl rfl) rfl rfl rfl ?_
    refine Seq.val (Runs.eqlI rfl rfl rfl) rfl rfl rfl ?_
    refine Seq.nil ?_
    refine Post.weak (F' := [(0, _), (1, _), (4, _), (5, _), (6, _), (7, _), (18, _)]) ⟨rfl, rfl, rfl, rfl, rfl, rfl, rfl, trivial⟩ ?_
    refine Post.then_ ?_
    refine Cd.condT rfl rfl ?_
    refine Cd.seq ?_
    refine Cd.region ?_
    refine Seq.val (Runs.assign rfl rfl) rfl rfl rfl ?_
    refine Seq.val (Runs.assign rfl rfl) rfl rfl rfl ?_
    refine Seq.nil ?_
    refine Post.weak (F' := [(0, _), (1, _), (4, _), (5, _), (6, _), (7, _), (18, _)]) ⟨rfl, rfl, rfl, rfl, rfl, rfl, rfl, trivial⟩ ?_
    refine Post.then_ ?_
    refine Cd.ret ?_
    refine Post.then_ret ?_
    refine Post.end2 rfl rfl rfl (.inl rfl) ?_
    exact ⟨rfl, bel⟩
theorem wdrop_any (B g0 gd : Nat) (D : Dk) (nm x : List Nat) (num count size : Int) (broken : Bool) (w : World) (k0 : Blk w g0 80 (wlCs gd nm num count size broken)) (dk : DkAt w B gd D) (hx : Byt x) (hxl : x.length ≤ 1000) :
    Calls Tryz.prog 49 #[.pointer (some ⟨g0, 0, none⟩), .string (strOf x)] w fun e w' => e = .returned (.int .i64 (D.dropE x)) ∧ DkAt w' B gd (D.delete x) ∧ Df B w w' := by
  have df := Df.refl B w
  refine Calls.start 15 Tryz.func49 rfl rfl rfl ?_
  refine Cd.seq ?_
  refine Cd.region ?_
  refine Seq.val (Runs.assign rfl rfl) rfl rfl rfl ?_
  refine Seq.nil ?_
  refine Post.weak (F' := [(0, _), (1, _), (4, _)]) ⟨rfl, rfl, rfl, trivial⟩ ?_
  refine Post.then_ ?_
  refine Cd.seq ?_
  refine Cd.region ?_
  refine Seq.val (Runs.move rfl rfl) rfl rfl rfl ?_
  refine Seq.val (Runs.nilCheck rfl rfl) rfl rfl rfl ?_
  refine Seq.val (Runs.fieldB 0 rfl rfl Tryz.underlying80 rfl (by kernel_rfl)) rfl rfl rfl ?_
  refine Seq.val (Runs.loadB rfl rfl Tryz.underlying26 rfl k0 rfl) rfl rfl rfl ?_
  refine Seq.val (Runs.move rfl rfl) rfl rfl rfl ?_
  refine Seq.call (Enters.func rfl rfl rfl (run_enter Tryz.func71 (by kernel_rfl) rfl)) rfl rfl rfl (delete_d_any B gd D x _ dk hx (by omega)) ?_
  clear dk
  rintro e w1 ⟨rfl, dk, fw1⟩
  refine ⟨_, rfl, ?_⟩
  replace df := df.df fw1
  replace k0 := k0.df fw1
  refine Seq.val (Runs.assign rfl rfl) rfl rfl rfl ?_
  refine Seq.nil ?_
  refine Post.weak (F' := [(0, _), (1, _), (4, _), (5, _)]) ⟨rfl, rfl, rfl, rfl, trivial⟩ ?_
  refine Post.then_ ?_
  refine Cd.seq ?_
  refine Cd.seq ?_
  refine Cd.region ?_
  refine Seq.val (Runs.move rfl rfl) rfl rfl rfl ?_
  refine Seq.val (Runs.eqlI rfl rfl rfl) rfl rfl rfl ?_
  refine Seq.nil ?_
  refine Post.weak (F' := [(0, _), (1, _), (4, _), (5, _), (13, _)]) ⟨rfl, rfl, rfl, rfl, rfl, trivial⟩ ?_
  refine Post.then_ ?_
  unfold Dk.dropE
  refine Cd.cond rfl (fun h => ?_) (fun h => ?_)
  · have h : D.thereE [x] x = 7 := by simpa using h
    rw [if_pos h]
    refine Cd.seq ?_
    refine Cd.region ?_
    refine Seq.val (Runs.assign rfl rfl) rfl rfl rfl ?_
    refine Seq.nil ?_
    refine Post.weak (F' := [(0, _), (1, _), (4, _), (5, _), (13, _)]) ⟨rfl, rfl, rfl, rfl, rfl, trivial⟩ ?_
    refine Post.then_ ?_
    refine Cd.ret ?_
    refine Post.then_ret ?_
    refine Post.end1 rfl rfl (.inl rfl) ?_
    exact ⟨rfl, dk, df⟩
  · have h : ¬ D.thereE [x] x = 7 := by simpa using h
    rw [if_neg h]
    refine Cd.skip ?_
    refine Post.then_ ?_
    refine Cd.seq ?_
    refine Cd.region ?_
    refine Seq.val (Runs.move rfl rfl) rfl rfl rfl ?_
    refine Seq.val (Runs.assign rfl rfl) rfl rfl rfl ?_
    refine Seq.nil ?_
    refine Post.weak (F' := [(0, _), (1, _), (4, _), (5, _), (13, _)]) ⟨rfl, rfl, rfl, rfl, rfl, trivial⟩ ?_
    refine Post.then_ ?_
    refine Cd.ret ?_
    refine Post.end1 rfl rfl (.inl rfl) ?_
    exact ⟨rfl, dk, df⟩
theorem note_any (B g0 gd n c : Nat) (D : Dk) (nm : List Nat) (num count size : Int) (broken : Bool) (w : World) (gv : Gv w) (hgB : 4 < B) (k0 : Blk w g0 80 (wlCs gd nm num count size broken)) (dk : DkAt w B gd D) (hn : n ≤ 999999) (hnm : Byt nm) (hnl : nm.length ≤ 8) (hc : c ≤ 9000000000) :
    Calls Tryz.prog 67 #[.pointer (some ⟨g0, 0, none⟩), .int .i64 (n : Int), .int .i64 (c : Int)] w fun e w' => e = .returned (.int .i64 (D.note (fileN nm n ackK) c).2) ∧ DkAt w' B gd (D.note (fileN nm n ackK) c).1 ∧ Df B w w' := by
  have df := Df.refl B w
  have hab := fileN_byt n hnm ackK_byt
  have hal : (fileN nm n ackK).length ≤ 1000 := by rw [fileN_len hn]; show nm.length + 7 + 4 ≤ _; omega
  refine Calls.start 29 Tryz.func67 rfl rfl rfl ?_
  refine Cd.seq ?_
  refine Cd.region ?_
  refine Seq.val (Runs.assign rfl rfl) rfl rfl rfl ?_
  refine Seq.nil ?_
  refine Post.weak (F' := [(0, _), (1, _), (2, _), (6, _)]) ⟨rfl, rfl, rfl, rfl, trivial⟩ ?_
  refine Post.then_ ?_
  refine Cd.seq ?_
  refine Cd.seq ?_
  refine Cd.draw 9 (by kernel_rfl) [] (.inl rfl) rfl Grow Grow.refl (fun _ _ _ => Grow.trans) ?_
  intro w1 hw1 zw1
  replace df := df.step hw1
  replace dk := dk.step hw1
  replace k0 := k0.step hw1
  replace gv := gv.step hw1
  have zlt := k0.lt
  refine Dr.val Grow.refl rfl (fun w hG => Runs.move rfl rfl) rfl ?_
  refine Dr.val Grow.refl rfl (fun w hG => Runs.nilCheck rfl rfl) rfl ?_
  refine Dr.val Grow.refl rfl (fun w hG => Runs.fieldB 0 rfl rfl Tryz.underlying80 rfl (by kernel_rfl)) rfl ?_
  refine Dr.val Grow.refl rfl (fun w hG => Runs.loadB rfl rfl Tryz.underlying26 rfl (k0.step hG) rfl) rfl ?_
  refine Dr.val Grow.refl rfl (fun w hG => Runs.move rfl rfl) rfl ?_
  refine Dr.val Grow.refl rfl (fun w hG => Runs.move rfl rfl) rfl ?_
  refine Dr.callV rfl (fun w => Enters.func rfl rfl rfl (run_enter Tryz.func50 (by kernel_rfl) rfl)) rfl (fun w hG => file_any g0 gd n nm ackK num count size broken w (gv.step hG) (k0.step hG) hn (by omega) (by decide)) ?_
  refine Dr.val Grow.refl rfl (fun w hG => Runs.move rfl rfl) rfl ?_
  refine Dr.callV rfl (fun w => Enters.func rfl rfl rfl (run_enter Tryz.func86 (by kernel_rfl) rfl)) rfl (fun w hG => marked_any c w (gv.step hG).nib (by omega)) ?_
  refine FinX.done (F' := [(0, _), (1, _), (2, _), (6, _), (11, _), (14, _), (16, _)]) rfl ⟨rfl, rfl, rfl, rfl, rfl, rfl, rfl, trivial⟩ ?_
  intro w2 hw2 fw2
  replace df := df.step hw2
  replace dk := dk.step hw2
  replace k0 := k0.step hw2
  replace gv := gv.step hw2
  obtain ⟨ack, hack⟩ : ∃ x, x = fileN nm n ackK := ⟨_, rfl⟩
  rw [← hack] at hab hal
  rw [← hack]
  refine Seq.call (Enters.func rfl rfl rfl (run_enter Tryz.func17 (by kernel_rfl) rfl)) rfl rfl rfl (append_d_any B gd D ack (markN c) _ dk hab (markN_lt c) (by omega) (by rw [markN_len]; omega)) ?_
  clear dk
  rintro e w3 ⟨rfl, dk, fw3⟩
  refine ⟨_, rfl, ?_⟩
  replace df := df.df fw3
  replace k0 := k0.df fw3
  replace gv := gv.df fw3
  refine Seq.val (Runs.assign rfl rfl) rfl rfl rfl ?_
  refine Seq.nil ?_
  refine Post.weak (F' := [(0, _), (1, _), (2, _), (6, _), (7, _)]) ⟨rfl, rfl, rfl, rfl, rfl, trivial⟩ ?_
  refine Post.then_ ?_
  refine Cd.seq ?_
  refine Cd.region ?_
  refine Seq.val (Runs.move rfl rfl) rfl rfl rfl ?_
  refine Seq.val (Runs.neqI rfl rfl rfl) rfl rfl rfl ?_
  refine Seq.nil ?_
  refine Post.weak (F' := [(0, _), (1, _), (2, _), (6, _), (7, _), (19, _)]) ⟨rfl, rfl, rfl, rfl, rfl, rfl, trivial⟩ ?_
  refine Post.then_ ?_
  refine Cd.cond rfl (fun h => ?_) (fun h => ?_)
  · have h : D.appendE ack (markN c) ≠ 0 := by simpa using h
    have hN : D.note ack c = (D.append ack (markN c), D.appendE ack (markN c)) := by unfold Dk.note; rw [if_pos h]
    rw [hN]
    refine Cd.seq ?_
    refine Cd.region ?_
    refine Seq.val (Runs.move rfl rfl) rfl rfl rfl ?_
    refine Seq.val (Runs.assign rfl rfl) rfl rfl rfl ?_
    refine Seq.nil ?_
    refine Post.weak (F' := [(0, _), (1, _), (2, _), (6, _), (7, _), (19, _)]) ⟨rfl, rfl, rfl, rfl, rfl, rfl, trivial⟩ ?_
    refine Post.then_ ?_
    refine Cd.ret ?_
    refine Post.then_ret ?_
    refine Post.end1 rfl rfl (.inl rfl) ?_
    exact ⟨rfl, dk, df⟩
  have h : ¬ (D.appendE ack (markN c) ≠ 0) := by simpa using h
  have hN : D.note ack c = ((D.append ack (markN c)).sync ack, (D.append ack (markN c)).thereE [ack] ack) := by unfold Dk.note; rw [if_neg h]
  rw [hN]
  refine Cd.skip ?_
  refine Post.then_ ?_
  refine Cd.seq ?_
  refine Cd.draw 7 (by kernel_rfl) [] (.inl rfl) rfl Grow Grow.refl (fun _ _ _ => Grow.trans) ?_
  intro w4 hw4 zw4
  replace df := df.step hw4
  replace dk := dk.step hw4
  replace k0 := k0.step hw4
  replace gv := gv.step hw4
  have zlt := k0.lt
  refine Dr.val Grow.refl rfl (fun w hG => Runs.move rfl rfl) rfl ?_
  refine Dr.val Grow.refl rfl (fun w hG => Runs.nilCheck rfl rfl) rfl ?_
  refine Dr.val Grow.refl rfl (fun w hG => Runs.fieldB 0 rfl rfl Tryz.underlying80 rfl (by kernel_rfl)) rfl ?_
  refine Dr.val Grow.refl rfl (fun w hG => Runs.loadB rfl rfl Tryz.underlying26 rfl (k0.step hG) rfl) rfl ?_
  refine Dr.val Grow.refl rfl (fun w hG => Runs.move rfl rfl) rfl ?_
  refine Dr.val Grow.refl rfl (fun w hG => Runs.move rfl rfl) rfl ?_
  refine Dr.callV rfl (fun w => Enters.func rfl rfl rfl (run_enter Tryz.func50 (by kernel_rfl) rfl)) rfl (fun w hG => file_any g0 gd n nm ackK num count size broken w (gv.step hG) (k0.step hG) hn (by omega) (by decide)) ?_
  refine FinX.done (F' := [(0, _), (1, _), (2, _), (6, _), (7, _), (19, _), (24, _), (27, _)]) rfl ⟨rfl, rfl, rfl, rfl, rfl, rfl, rfl, rfl, trivial⟩ ?_
  intro w5 hw5 fw5
  replace df := df.step hw5
  replace dk := dk.step hw5
  replace k0 := k0.step hw5
  replace gv := gv.step hw5
  rw [← hack]
  refine Seq.call (Enters.func rfl rfl rfl (run_enter Tryz.func27 (by kernel_rfl) rfl)) rfl rfl rfl (sync_any B gd (D.append ack (markN c)) ack _ dk hab (by omega)) ?_
  clear dk
  rintro e w6 ⟨rfl, dk, fw6⟩
  refine ⟨_, rfl, ?_⟩
  replace df := df.df fw6
  replace k0 := k0.df fw6
  replace gv := gv.df fw6
  refine Seq.val (Runs.assign rfl rfl) rfl rfl rfl ?_
  refine Seq.nil ?_
  refine Post.weak (F' := [(0, _), (1, _), (2, _), (6, _), (7, _), (19, _)]) ⟨rfl, rfl, rfl, rfl, rfl, rfl, trivial⟩ ?_
  refine Post.then_ ?_
  refine Cd.ret ?_
  refine Post.end1 rfl rfl (.inl rfl) ?_
  exact ⟨rfl, dk, df⟩
theorem again_any (B g0 gd n cnt : Nat) (D : Dk) (nm : List Nat) (num count size : Int) (broken : Bool) (w : World) (gv : Gv w) (hgB : 4 < B) (k0 : Blk w g0 80 (wlCs gd nm num count size broken)) (dk : DkAt w B gd D) (hn : n ≤ 999999) (hnm : Byt nm) (hnl : nm.length ≤ 8) (hc : cnt ≤ 1000000) :
    Calls Tryz.prog 62 #[.pointer (some ⟨g0, 0, none⟩), .int .i64 (n : Int), .int .i64 (cnt : Int)] w fun e w' => e = .returned (.int .i64 (D.again nm n cnt).2) ∧ DkAt w' B gd (D.again nm n cnt).1 ∧ Df B w w' := by
  have df := Df.refl B w
  have hab := fileN_byt n hnm ackK_byt
  have hal : (fileN nm n ackK).length ≤ 1000 := by rw [fileN_len hn]; show nm.length + 7 + 4 ≤ _; omega
  have hfb := fileN_byt n hnm newK_byt
  have hfl : (fileN nm n newK).length ≤ 1000 := by rw [fileN_len hn]; show nm.length + 7 + 4 ≤ _; omega
  unfold Dk.again
  refine Calls.start 71 Tryz.func62 rfl rfl rfl ?_
  refine Cd.seq ?_
  refine Cd.region ?_
  refine Seq.val (Runs.assign rfl rfl) rfl rfl rfl ?_
  refine Seq.nil ?_
  refine Post.weak (F' := [(0, _), (1, _), (2, _), (6, _)]) ⟨rfl, rfl, rfl, rfl, trivial⟩ ?_
  refine Post.then_ ?_
  refine Cd.seq ?_
  refine Cd.region ?_
  refine Seq.val (Runs.move rfl rfl) rfl rfl rfl ?_
  refine Seq.val (Runs.move rfl rfl) rfl rfl rfl ?_
  refine Seq.call (Enters.func rfl rfl rfl (run_enter Tryz.func50 (by kernel_rfl) rfl)) rfl rfl rfl (file_any g0 gd n nm ackK num count size broken _ gv k0 hn (by omega) (by decide)) ?_
  rintro e w5 ⟨rfl, hb5⟩
  refine ⟨_, rfl, ?_⟩
  replace df := df.step hb5
  replace dk := dk.step hb5
  replace k0 := k0.step hb5
  replace gv := gv.step hb5
  refine Seq.val (Runs.move rfl rfl) rfl rfl rfl ?_
  refine Seq.val (Runs.move rfl rfl) rfl rfl rfl ?_
  refine Seq.call (Enters.func rfl rfl rfl (run_enter Tryz.func50 (by kernel_rfl) rfl)) rfl rfl rfl (file_any g0 gd n nm newK num count size broken _ gv k0 hn (by omega) (by decide)) ?_
  rintro e w6 ⟨rfl, hb6⟩
  refine ⟨_, rfl, ?_⟩
  replace df := df.step hb6
  replace dk := dk.step hb6
  replace k0 := k0.step hb6
  replace gv := gv.step hb6
  refine Seq.val (Runs.assign rfl rfl) rfl rfl rfl ?_
  refine Seq.val (Runs.assign rfl rfl) rfl rfl rfl ?_
  refine Seq.nil ?_
  refine Post.weak (F' := [(0, _), (1, _), (2, _), (6, _), (7, _), (8, _)]) ⟨rfl, rfl, rfl, rfl, rfl, rfl, trivial⟩ ?_
  refine Post.then_ ?_
  refine Cd.seq ?_
  refine Cd.seq ?_
  refine Cd.region ?_
  refine Seq.val (Runs.move rfl rfl) rfl rfl rfl ?_
  refine Seq.val (Runs.move rfl rfl) rfl rfl rfl ?_
  obtain ⟨ack, hack⟩ : ∃ x, x = fileN nm n ackK := ⟨_, rfl⟩
  obtain ⟨fr, hfr⟩ : ∃ x, x = fileN nm n newK := ⟨_, rfl⟩
  rw [← hack] at hab hal
  rw [← hfr] at hfb hfl
  rw [← hack, ← hfr]
  refine Seq.call (Enters.func rfl rfl rfl (run_enter Tryz.func49 (by kernel_rfl) rfl)) rfl rfl rfl (wdrop_any B g0 gd D nm fr num count size broken _ k0 dk hfb hfl) ?_
  clear dk
  rintro e w1 ⟨rfl, dk, fw1⟩
  refine ⟨_, rfl, ?_⟩
  replace df := df.df fw1
  replace k0 := k0.df fw1
  replace gv := gv.df fw1
  refine Seq.val (Runs.assign rfl rfl) rfl rfl rfl ?_
  refine Seq.nil ?_
  refine Post.weak (F' := [(0, _), (1, _), (2, _), (6, _), (7, _), (8, _), (9, _)]) ⟨rfl, rfl, rfl, rfl, rfl, rfl, rfl, trivial⟩ ?_
  refine Post.then_ ?_
  refine Cd.seq ?_
  refine Cd.region ?_
  refine Seq.val (Runs.move rfl rfl) rfl rfl rfl ?_
  refine Seq.val (Runs.neqI rfl rfl rfl) rfl rfl rfl ?_
  refine Seq.nil ?_
  refine Post.weak (F' := [(0, _), (1, _), (2, _), (6, _), (7, _), (8, _), (9, _), (23, _)]) ⟨rfl, rfl, rfl, rfl, rfl, rfl, rfl, rfl, trivial⟩ ?_
  refine Post.then_ ?_
  refine Cd.cond rfl (fun h => ?_) (fun h => ?_)
  · have h : D.dropE fr ≠ 0 := by simpa using h
    rw [if_pos h]
    refine Cd.seq ?_
    refine Cd.region ?_
    refine Seq.val (Runs.move rfl rfl) rfl rfl rfl ?_
    refine Seq.val (Runs.assign rfl rfl) rfl rfl rfl ?_
    refine Seq.nil ?_
    refine Post.weak (F' := [(0, _), (1, _), (2, _), (6, _), (7, _), (8, _), (9, _), (23, _)]) ⟨rfl, rfl, rfl, rfl, rfl, rfl, rfl, rfl, trivial⟩ ?_
    refine Post.then_ ?_
    refine Cd.ret ?_
    refine Post.then_ret ?_
    refine Post.end1 rfl rfl (.inl rfl) ?_
    exact ⟨rfl, dk, df⟩
  have h : ¬ (D.dropE fr ≠ 0) := by simpa using h
  rw [if_neg h]
  obtain ⟨D1, hD1⟩ : ∃ x, x = D.delete fr := ⟨_, rfl⟩
  rw [← hD1] at dk
  rw [← hD1]
  refine Cd.skip ?_
  refine Post.then_ ?_
  refine Cd.seq ?_
  refine Cd.seq ?_
  refine Cd.region ?_
  refine Seq.val (Runs.move rfl rfl) rfl rfl rfl ?_
  refine Seq.val (Runs.nilCheck rfl rfl) rfl rfl rfl ?_
  refine Seq.val (Runs.fieldB 0 rfl rfl Tryz.underlying80 rfl (by kernel_rfl)) rfl rfl rfl ?_
  refine Seq.val (Runs.loadB rfl rfl Tryz.underlying26 rfl k0 rfl) rfl rfl rfl ?_
  refine Seq.call (Enters.func rfl rfl rfl (run_enter Tryz.func31 (by kernel_rfl) rfl)) rfl rfl rfl (names_any B gd D1 _ dk) ?_
  rintro e w7 ⟨v, rfl, own, hb7⟩
  refine ⟨_, rfl, ?_⟩
  obtain ⟨A, c, rfl, -⟩ := own.reads
  clear own
  replace df := df.step hb7
  replace dk := dk.step hb7
  replace k0 := k0.step hb7
  replace gv := gv.step hb7
  refine Seq.val (Runs.len rfl rfl Tryz.underlying22) rfl rfl rfl ?_
  refine Seq.val (Runs.geq rfl rfl rfl) rfl rfl rfl ?_
  refine Seq.nil ?_
  refine Post.weak (F' := [(0, _), (1, _), (2, _), (6, _), (7, _), (8, _), (9, _), (23, _), (31, _)]) ⟨rfl, rfl, rfl, rfl, rfl, rfl, rfl, rfl, rfl, trivial⟩ ?_
  refine Post.then_ ?_
  refine Cd.cond rfl (fun h => ?_) (fun h => ?_)
  · have h : 200 ≤ D1.files.length := by
      have h' : (200 : Int) ≤ (D1.files.length : Int) := by simpa using h
      omega
    rw [if_pos h]
    refine Cd.seq ?_
    refine Cd.seq ?_
    refine Cd.region ?_
    refine Seq.val (Runs.move rfl rfl) rfl rfl rfl ?_
    refine Seq.val (Runs.move rfl rfl) rfl rfl rfl ?_
    refine Seq.call (Enters.func rfl rfl rfl (run_enter Tryz.func49 (by kernel_rfl) rfl)) rfl rfl rfl (wdrop_any B g0 gd D1 nm ack num count size broken _ k0 dk hab hal) ?_
    clear dk
    rintro e w2 ⟨rfl, dk, fw2⟩
    refine ⟨_, rfl, ?_⟩
    replace df := df.df fw2
    replace k0 := k0.df fw2
    replace gv := gv.df fw2
    refine Seq.val (Runs.assign rfl rfl) rfl rfl rfl ?_
    refine Seq.nil ?_
    refine Post.weak (F' := [(0, _), (1, _), (2, _), (6, _), (7, _), (8, _), (9, _), (10, _), (23, _), (31, _)]) ⟨rfl, rfl, rfl, rfl, rfl, rfl, rfl, rfl, rfl, rfl, trivial⟩ ?_
    refine Post.then_ ?_
    refine Cd.seq ?_
    refine Cd.region ?_
    refine Seq.val (Runs.move rfl rfl) rfl rfl rfl ?_
    refine Seq.val (Runs.neqI rfl rfl rfl) rfl rfl rfl ?_
    refine Seq.nil ?_
    refine Post.weak (F' := [(0, _), (1, _), (2, _), (6, _), (7, _), (8, _), (9, _), (10, _), (23, _), (31, _), (36, _)]) ⟨rfl, rfl, rfl, rfl, rfl, rfl, rfl, rfl, rfl, rfl, rfl, trivial⟩ ?_
    refine Post.then_ ?_
    refine Cd.cond rfl (fun h => ?_) (fun h => ?_)
    · have h : D1.dropE ack ≠ 0 := by simpa using h
      rw [if_pos h]
      refine Cd.seq ?_
      refine Cd.region ?_
      refine Seq.val (Runs.move rfl rfl) rfl rfl rfl ?_
      refine Seq.val (Runs.assign rfl rfl) rfl rfl rfl ?_
      refine Seq.nil ?_
      refine Post.weak (F' := [(0, _), (1, _), (2, _), (6, _), (7, _), (8, _), (9, _), (10, _), (23, _), (31, _), (36, _)]) ⟨rfl, rfl, rfl, rfl, rfl, rfl, rfl, rfl, rfl, rfl, rfl, trivial⟩ ?_
      refine Post.then_ ?_
      refine Cd.ret ?_
      refine Post.then_ret ?_
      refine Post.then_ret ?_
      refine Post.end1 rfl rfl (.inl rfl) ?_
      exact ⟨rfl, dk, df⟩
    have h : ¬ (D1.dropE ack ≠ 0) := by simpa using h
    rw [if_neg h]
    refine Cd.skip ?_
    refine Post.then_ ?_
    refine Cd.seq ?_
    refine Cd.region ?_
    refine Seq.val (Runs.move rfl rfl) rfl rfl rfl ?_
    refine Seq.val (Runs.move rfl rfl) rfl rfl rfl ?_
    refine Seq.val (Runs.move rfl rfl) rfl rfl rfl ?_
    refine Seq.val (Runs.addI rfl rfl rfl (by omega) (by omega)) rfl rfl rfl ?_
    have e41 : (4294967296 : Int) + (cnt : Int) = ((4294967296 + cnt : Nat) : Int) := by omega
    rw [e41]
    rw [hack]
    rw [hack] at dk
    refine Seq.call (Enters.func rfl rfl rfl (run_enter Tryz.func67 (by kernel_rfl) rfl)) rfl rfl rfl (note_any B g0 gd n (4294967296 + cnt) (D1.delete (fileN nm n ackK)) nm num count size broken _ gv hgB k0 dk hn hnm hnl (by omega)) ?_
    clear dk
    rintro e w3 ⟨rfl, dk, fw3⟩
    refine ⟨_, rfl, ?_⟩
    replace df := df.df fw3
    replace k0 := k0.df fw3
    replace gv := gv.df fw3
    refine Seq.val (Runs.assign rfl rfl) rfl rfl rfl ?_
    refine Seq.nil ?_
    refine Post.weak (F' := [(0, _), (1, _), (2, _), (6, _), (7, _), (8, _), (9, _), (10, _), (23, _), (31, _), (36, _)]) ⟨rfl, rfl, rfl, rfl, rfl, rfl, rfl, rfl, rfl, rfl, rfl, trivial⟩ ?_
    refine Post.then_ ?_
    refine Cd.ret ?_
    refine Post.then_ret ?_
    refine Post.end1 rfl rfl (.inl rfl) ?_
    exact ⟨rfl, dk, df⟩
  have h : ¬ (200 ≤ D1.files.length) := by
    have h' : ¬ ((200 : Int) ≤ (D1.files.length : Int)) := by simpa using h
    omega
  rw [if_neg h]
  unfold Dk.fresh
  have e41 : (4294967296 : Int) + (cnt : Int) = ((4294967296 + cnt : Nat) : Int) := by omega
  obtain ⟨M, hM⟩ : ∃ x, x = 4294967296 + cnt := ⟨_, rfl⟩
  rw [← hM] at e41
  rw [← hM]
  refine Cd.skip ?_
  refine Post.then_ ?_
  refine Cd.seq ?_
  refine Cd.seq ?_
  refine Cd.draw 8 (by kernel_rfl) [] (.inl rfl) rfl Grow Grow.refl (fun _ _ _ => Grow.trans) ?_
  intro w2 hw2 zw2
  replace df := df.step hw2
  replace dk := dk.step hw2
  replace k0 := k0.step hw2
  replace gv := gv.step hw2
  have zlt := k0.lt
  refine Dr.val Grow.refl rfl (fun w hG => Runs.move rfl rfl) rfl ?_
  refine Dr.val Grow.refl rfl (fun w hG => Runs.nilCheck rfl rfl) rfl ?_
  refine Dr.val Grow.refl rfl (fun w hG => Runs.fieldB 0 rfl rfl Tryz.underlying80 rfl (by kernel_rfl)) rfl ?_
  refine Dr.val Grow.refl rfl (fun w hG => Runs.loadB rfl rfl Tryz.underlying26 rfl (k0.step hG) rfl) rfl ?_
  refine Dr.val Grow.refl rfl (fun w hG => Runs.move rfl rfl) rfl ?_
  refine Dr.val Grow.refl rfl (fun w hG => Runs.move rfl rfl) rfl ?_
  refine Dr.val Grow.refl rfl (fun w hG => Runs.addI rfl rfl rfl (by omega) (by omega)) rfl ?_
  rw [e41]
  refine Dr.callV rfl (fun w => Enters.func rfl rfl rfl (run_enter Tryz.func86 (by kernel_rfl) rfl)) rfl (fun w hG => marked_any M w (gv.step hG).nib (by omega)) ?_
  refine FinX.done (F' := [(0, _), (1, _), (2, _), (6, _), (7, _), (8, _), (9, _), (23, _), (31, _), (46, _), (47, _), (50, _)]) rfl ⟨rfl, rfl, rfl, rfl, rfl, rfl, rfl, rfl, rfl, rfl, rfl, rfl, trivial⟩ ?_
  intro w3 hw3 fw3
  replace df := df.step hw3
  replace dk := dk.step hw3
  replace k0 := k0.step hw3
  replace gv := gv.step hw3
  refine Seq.call (Enters.func rfl rfl rfl (run_enter Tryz.func17 (by kernel_rfl) rfl)) rfl rfl rfl (append_d_any B gd D1 fr (markN M) _ dk hfb (markN_lt M) (by omega) (by rw [markN_len]; omega)) ?_
  clear dk
  rintro e w4 ⟨rfl, dk, fw4⟩
  refine ⟨_, rfl, ?_⟩
  replace df := df.df fw4
  replace k0 := k0.df fw4
  replace gv := gv.df fw4
  refine Seq.val (Runs.assign rfl rfl) rfl rfl rfl ?_
  refine Seq.nil ?_
  refine Post.weak (F' := [(0, _), (1, _), (2, _), (6, _), (7, _), (8, _), (9, _), (11, _), (23, _), (31, _)]) ⟨rfl, rfl, rfl, rfl, rfl, rfl, rfl, rfl, rfl, rfl, trivial⟩ ?_
  refine Post.then_ ?_
  refine Cd.seq ?_
  refine Cd.region ?_
  refine Seq.val (Runs.move rfl rfl) rfl rfl rfl ?_
  refine Seq.val (Runs.neqI rfl rfl rfl) rfl rfl rfl ?_
  refine Seq.nil ?_
  refine Post.weak (F' := [(0, _), (1, _), (2, _), (6, _), (7, _), (8, _), (9, _), (11, _), (23, _), (31, _), (53, _)]) ⟨rfl, rfl, rfl, rfl, rfl, rfl, rfl, rfl, rfl, rfl, rfl, trivial⟩ ?_
  refine Post.then_ ?_
  refine Cd.cond rfl (fun h => ?_) (fun h => ?_)
  · have h : D1.appendE fr (markN M) ≠ 0 := by simpa using h
    rw [if_pos h]
    refine Cd.seq ?_
    refine Cd.region ?_
    refine Seq.val (Runs.move rfl rfl) rfl rfl rfl ?_
    refine Seq.val (Runs.assign rfl rfl) rfl rfl rfl ?_
    refine Seq.nil ?_
    refine Post.weak (F' := [(0, _), (1, _), (2, _), (6, _), (7, _), (8, _), (9, _), (11, _), (23, _), (31, _), (53, _)]) ⟨rfl, rfl, rfl, rfl, rfl, rfl, rfl, rfl, rfl, rfl, rfl, trivial⟩ ?_
    refine Post.then_ ?_
    refine Cd.ret ?_
    refine Post.then_ret ?_
    refine Post.end1 rfl rfl (.inl rfl) ?_
    exact ⟨rfl, dk, df⟩
  have h : ¬ (D1.appendE fr (markN M) ≠ 0) := by simpa using h
  rw [if_neg h]
  obtain ⟨D2, hD2⟩ : ∃ x, x = D1.append fr (markN M) := ⟨_, rfl⟩
  rw [← hD2] at dk
  rw [← hD2]
  refine Cd.skip ?_
  refine Post.then_ ?_
  refine Cd.seq ?_
  refine Cd.seq ?_
  refine Cd.region ?_
  refine Seq.val (Runs.move rfl rfl) rfl rfl rfl ?_
  refine Seq.val (Runs.nilCheck rfl rfl) rfl rfl rfl ?_
  refine Seq.val (Runs.fieldB 0 rfl rfl Tryz.underlying80 rfl (by kernel_rfl)) rfl rfl rfl ?_
  refine Seq.val (Runs.loadB rfl rfl Tryz.underlying26 rfl k0 rfl) rfl rfl rfl ?_
  refine Seq.val (Runs.move rfl rfl) rfl rfl rfl ?_
  refine Seq.call (Enters.func rfl rfl rfl (run_enter Tryz.func27 (by kernel_rfl) rfl)) rfl rfl rfl (sync_any B gd D2 fr _ dk hfb (by omega)) ?_
  clear dk
  rintro e w5 ⟨rfl, dk, fw5⟩
  refine ⟨_, rfl, ?_⟩
  replace df := df.df fw5
  replace k0 := k0.df fw5
  replace gv := gv.df fw5
  refine Seq.val (Runs.assign rfl rfl) rfl rfl rfl ?_
  refine Seq.nil ?_
  refine Post.weak (F' := [(0, _), (1, _), (2, _), (6, _), (7, _), (8, _), (9, _), (11, _), (12, _), (23, _), (31, _), (53, _)]) ⟨rfl, rfl, rfl, rfl, rfl, rfl, rfl, rfl, rfl, rfl, rfl, rfl, trivial⟩ ?_
  refine Post.then_ ?_
  refine Cd.seq ?_
  refine Cd.region ?_
  refine Seq.val (Runs.move rfl rfl) rfl rfl rfl ?_
  refine Seq.val (Runs.neqI rfl rfl rfl) rfl rfl rfl ?_
  refine Seq.nil ?_
  refine Post.weak (F' := [(0, _), (1, _), (2, _), (6, _), (7, _), (8, _), (9, _), (11, _), (12, _), (23, _), (31, _), (53, _), (62, _)]) ⟨rfl, rfl, rfl, rfl, rfl, rfl, rfl, rfl, rfl, rfl, rfl, rfl, rfl, trivial⟩ ?_
  refine Post.then_ ?_
  refine Cd.cond rfl (fun h => ?_) (fun h => ?_)
  · have h : D2.thereE [fr] fr ≠ 0 := by simpa using h
    rw [if_pos h]
    refine Cd.seq ?_
    refine Cd.region ?_
    refine Seq.val (Runs.move rfl rfl) rfl rfl rfl ?_
    refine Seq.val (Runs.assign rfl rfl) rfl rfl rfl ?_
    refine Seq.nil ?_
    refine Post.weak (F' := [(0, _), (1, _), (2, _), (6, _), (7, _), (8, _), (9, _), (11, _), (12, _), (23, _), (31, _), (53, _), (62, _)]) ⟨rfl, rfl, rfl, rfl, rfl, rfl, rfl, rfl, rfl, rfl, rfl, rfl, rfl, trivial⟩ ?_
    refine Post.then_ ?_
    refine Cd.ret ?_
    refine Post.then_ret ?_
    refine Post.end1 rfl rfl (.inl rfl) ?_
    exact ⟨rfl, dk, df⟩
  have h : ¬ (D2.thereE [fr] fr ≠ 0) := by simpa using h
  rw [if_neg h]
  refine Cd.skip ?_
  refine Post.then_ ?_
  refine Cd.seq ?_
  refine Cd.region ?_
  refine Seq.val (Runs.move rfl rfl) rfl rfl rfl ?_
  refine Seq.val (Runs.nilCheck rfl rfl) rfl rfl rfl ?_
  refine Seq.val (Runs.fieldB 0 rfl rfl Tryz.underlying80 rfl (by kernel_rfl)) rfl rfl rfl ?_
  refine Seq.val (Runs.loadB rfl rfl Tryz.underlying26 rfl k0 rfl) rfl rfl rfl ?_
  refine Seq.val (Runs.move rfl rfl) rfl rfl rfl ?_
  refine Seq.val (Runs.move rfl rfl) rfl rfl rfl ?_
  refine Seq.call (Enters.func rfl rfl rfl (run_enter Tryz.func87 (by kernel_rfl) rfl)) rfl rfl rfl (rename_d_any B gd (D2.sync fr) fr ack _ dk hfb hab (by omega) (by omega)) ?_
  clear dk
  rintro e w6 ⟨rfl, dk, fw6⟩
  refine ⟨_, rfl, ?_⟩
  replace df := df.df fw6
  replace k0 := k0.df fw6
  replace gv := gv.df fw6
  refine Seq.val (Runs.assign rfl rfl) rfl rfl rfl ?_
  refine Seq.nil ?_
  refine Post.weak (F' := [(0, _), (1, _), (2, _), (6, _), (7, _), (8, _), (9, _), (11, _), (12, _), (23, _), (31, _), (53, _), (62, _)]) ⟨rfl, rfl, rfl, rfl, rfl, rfl, rfl, rfl, rfl, rfl, rfl, rfl, rfl, trivial⟩ ?_
  refine Post.then_ ?_
  refine Cd.ret ?_
  refine Post.end1 rfl rfl (.inl rfl) ?_
  exact ⟨rfl, dk, df⟩
end Go.Proofs.YtnlepoplncjliaaGreatDoor
