/-
  Texts that were joined: WjE, WjB, WjG, WgG, WjF, TOpen, WdD, WfD, WjC. Conditions: what each theorem names.
-/
import Derived.Test.YtnlepoplncjliaaGreatDoorZ4
import Derived.ProofKit
import Derived.OpenShut
import Derived.Lib.SmallJoins
import Derived.Deep.Slices
import Derived.Deep.Fields
import Derived.ChangeSame
import Derived.LaidMore
import Derived.Lib.LaidTab
import Derived.Shelf.Vars
set_option linter.unusedSectionVars false
namespace Go.Proofs.YtnlepoplncjliaaGreatDoor
open Go.RowKit

set_option maxHeartbeats 8000000 in
theorem does_armL_any (B gr M : Nat) (a : ActV) (D : Dk) (W : Wl) (segs : List (Nat × List (List Nat))) (k : Nat) (w : World) (gv : Gv w) (hgB : 4 < B) (hP : PlIs D W segs k) (hk : k ≤ 30) (h : RunAt w B gr (D.arm M) W segs) (hd : Byt a.data) (hdl : a.data.length ≤ 300) (hn : I64 a.n) (ha0 : 0 ≤ a.kind) (ha3 : a.kind ≤ 3) :
    Calls Tryz.prog 25 #[.pointer (some ⟨gr, 0, none⟩), a.v] w fun e w' =>
      (∃ D' W' segs' M', e = .returned (.tuple #[.bool true, .bool false]) ∧ PlIs D' W' segs' (k + 1) ∧ RunAt w' B gr (D'.arm M') W' segs' ∧ Bf B w w') ∨
      (∃ E, e = .returned (.tuple #[.bool true, .bool true]) ∧ OffR a E W segs ∧ RunAt w' B gr E { W with broken := true } segs ∧ Bf B w w') := by
  obtain ⟨⟨gd, g6, v, k90, dk, k6, own, e6⟩, e90⟩ := h
  have bf := Bf.refl B w
  have hBw := dk.size
  have hb1 := hP.num
  have hb2 := hP.cnt
  have hb3 := hP.size
  have hrl := hP.recs
  have hwn : W.broken = false := hP.wl.broken
  have hne6 := k90.neT k6
  obtain ⟨A0, c0, rfl, -⟩ := own.reads
  unfold ActV.v
  refine Calls.start 156 Tryz.func25 rfl rfl rfl ?_
  refine Cd.seq ?_
  refine Cd.region ?_
  refine Seq.box rfl rfl rfl rfl rfl ?_
  intro g3 w1 n3
  have l3 := Nat.lt_of_lt_of_le k6.lt n3.ge
  replace bf := bf.step n3.below
  replace gv := gv.step n3.below
  replace k90 := k90.step n3.below
  replace dk := dk.step n3.below
  replace k6 := k6.step n3.below
  replace own := own.step n3.below
  have k3 := n3.blk
  refine Seq.val (Runs.assign rfl rfl) rfl rfl rfl ?_
  refine Seq.val (Runs.assign rfl rfl) rfl rfl rfl ?_
  refine Seq.nil ?_
  refine Post.weak (F' := [(0, _), (1, _), (3, _), (4, _), (5, _)]) ⟨rfl, rfl, rfl, rfl, rfl, trivial⟩ ?_
  refine Post.then_ ?_
  refine Cd.seq ?_
  refine Cd.seq ?_
  refine Cd.region ?_
  refine Seq.val (Runs.fieldB 0 rfl rfl Tryz.underlying57 rfl (by kernel_rfl)) rfl rfl rfl ?_
  refine Seq.val (Runs.loadB rfl rfl Tryz.underlying3 rfl k3 rfl) rfl rfl rfl ?_
  refine Seq.nil ?_
  refine Post.weak (F' := [(0, _), (1, _), (3, _), (4, _), (5, _), (12, _)]) ⟨rfl, rfl, rfl, rfl, rfl, rfl, trivial⟩ ?_
  refine Post.then_ ?_
  refine Cd.block ?_
  refine Cd.seq ?_
  refine Cd.region ?_
  refine Seq.val (Runs.eqlI rfl rfl rfl) rfl rfl rfl ?_
  refine Seq.val (Runs.assign rfl rfl) rfl rfl rfl ?_
  refine Seq.nil ?_
  refine Post.weak (F' := [(0, _), (1, _), (3, _), (4, _), (5, _), (12, _), (13, _)]) ⟨rfl, rfl, rfl, rfl, rfl, rfl, rfl, trivial⟩ ?_
  refine Post.then_ ?_
  have hne3 := k90.neT k3
  have hne63 := k6.neT k3
  refine Cd.cond rfl (fun h => ?_) (fun h => ?_)
  · have hkd : a.kind = 0 := by simpa using h
    refine Cd.seq ?_
    refine Cd.draw 6 (by kernel_rfl) [] (.inl rfl) rfl Grow Grow.refl (fun _ _ _ => Grow.trans) ?_
    intro w2 hw2 zw2
    replace bf := bf.step hw2
    replace gv := gv.step hw2
    replace k90 := k90.step hw2
    replace dk := dk.step hw2
    replace k6 := k6.step hw2
    replace own := own.step hw2
    replace k3 := k3.step hw2
    have zlt := k3.lt
    refine Dr.val Grow.refl rfl (fun w hG => Runs.move rfl rfl) rfl ?_
    refine Dr.val Grow.refl rfl (fun w hG => Runs.nilCheck rfl rfl) rfl ?_
    refine Dr.val Grow.refl rfl (fun w hG => Runs.fieldB 1 rfl rfl Tryz.underlying59 rfl (by kernel_rfl)) rfl ?_
    refine Dr.val Grow.refl rfl (fun w hG => Runs.loadB rfl rfl Tryz.underlying28 rfl (k90.step hG) rfl) rfl ?_
    refine Dr.val Grow.refl rfl (fun w hG => Runs.fieldB 2 rfl rfl Tryz.underlying57 rfl (by kernel_rfl)) rfl ?_
    refine Dr.val Grow.refl rfl (fun w hG => Runs.loadB rfl rfl Tryz.underlying9 rfl (k3.step hG) rfl) rfl ?_
    refine Dr.nil ?_
    refine FinX.done (F' := [(0, _), (1, _), (3, _), (4, _), (5, _), (12, _), (13, _), (18, _), (20, _)]) rfl ⟨rfl, rfl, rfl, rfl, rfl, rfl, rfl, rfl, rfl, trivial⟩ ?_
    intro w3 hw3 fw3
    replace bf := bf.step hw3
    replace gv := gv.step hw3
    replace k90 := k90.step hw3
    replace dk := dk.step hw3
    replace k6 := k6.step hw3
    replace own := own.step hw3
    replace k3 := k3.step hw3
    refine Seq.call (Enters.func rfl rfl rfl (run_enter Tryz.func15 (by kernel_rfl) rfl)) rfl rfl rfl (append_w_any B g6 gd (D.arm M) [119] a.data W _ gv hgB e6 k6 dk (byt_one (by omega)) (by decide) (by omega) (by omega) (by omega) hd (by omega)) ?_
    clear k6 dk
    rintro e w4 ⟨rfl, k6, dk, fw4⟩
    refine ⟨_, rfl, ?_⟩
    replace bf := bf.lf fw4
    replace gv := gv.lf fw4
    replace k90 := k90.lf fw4
    replace own := own.lf fw4
    replace k3 := k3.lf fw4
    rcases hP.append_arm hk hd hdl M with ⟨D', segs', M', hA, -, hP', hrec⟩ | ⟨E, hA, hoff, hownE, hleft⟩
    · rw [hA] at k6 dk
      rw [hA]
      refine Seq.val (Runs.assign rfl rfl) rfl rfl rfl ?_
      refine Seq.nil ?_
      refine Post.weak (F' := [(0, _), (1, _), (3, _), (4, _), (5, _), (6, _), (12, _), (13, _)]) ⟨rfl, rfl, rfl, rfl, rfl, rfl, rfl, rfl, trivial⟩ ?_
      refine Post.then_ ?_
      refine Cd.seq ?_
      refine Cd.seq ?_
      refine Cd.region ?_
      refine Seq.val (Runs.move rfl rfl) rfl rfl rfl ?_
      refine Seq.val (Runs.eqlI rfl rfl rfl) rfl rfl rfl ?_
      refine Seq.nil ?_
      refine Post.weak (F' := [(0, _), (1, _), (3, _), (4, _), (5, _), (6, _), (12, _), (13, _), (23, _)]) ⟨rfl, rfl, rfl, rfl, rfl, rfl, rfl, rfl, rfl, trivial⟩ ?_
      refine Post.then_ ?_
      refine Cd.condF rfl rfl ?_
      refine Cd.skip ?_
      refine Post.then_ ?_
      refine Cd.seq ?_
      refine Cd.draw 13 (by kernel_rfl) [0] (.inr (fun _ _ d _ _ h => by cases d <;> exact h)) rfl Grow Grow.refl (fun _ _ _ => Grow.trans) ?_
      intro w5 hw5 zw5
      replace bf := bf.step hw5
      replace gv := gv.step hw5
      replace k90 := k90.step hw5
      replace dk := dk.step hw5
      replace k6 := k6.step hw5
      replace own := own.step hw5
      replace k3 := k3.step hw5
      have zlt := k3.lt
      refine Dr.late rfl rfl (fun w => Runs.move rfl rfl) Grow.refl rfl ?_
      refine Dr.val Grow.refl rfl (fun w hG => Runs.move rfl rfl) rfl ?_
      refine Dr.val Grow.refl rfl (fun w hG => Runs.nilCheck rfl rfl) rfl ?_
      refine Dr.val Grow.refl rfl (fun w hG => Runs.fieldB 2 rfl rfl Tryz.underlying59 rfl (by kernel_rfl)) rfl ?_
      refine Dr.val Grow.refl rfl (fun w hG => Runs.loadB rfl rfl Tryz.underlying29 rfl (k90.step hG) rfl) rfl ?_
      refine Dr.val Grow.refl rfl (fun w hG => Runs.move rfl rfl) rfl ?_
      refine Dr.val Grow.refl rfl (fun w hG => Runs.nilCheck rfl rfl) rfl ?_
      refine Dr.val Grow.refl rfl (fun w hG => Runs.fieldB 3 rfl rfl Tryz.underlying59 rfl (by kernel_rfl)) rfl ?_
      refine Dr.val Grow.refl rfl (fun w hG => Runs.loadB rfl rfl Tryz.underlying3 rfl (k90.step hG) rfl) rfl ?_
      refine Dr.val Grow.refl rfl (fun w hG => Runs.fieldB 2 rfl rfl Tryz.underlying57 rfl (by kernel_rfl)) rfl ?_
      refine Dr.val Grow.refl rfl (fun w hG => Runs.loadB rfl rfl Tryz.underlying9 rfl (k3.step hG) rfl) rfl ?_
      refine Dr.val Grow.refl rfl (fun w hG => Runs.build rfl rfl (run_build_rec (W.num : Int) a.data w)) rfl ?_
      refine Dr.slice (vs := [_]) (s := 2) rfl rfl rfl rfl Tryz.underlying29 (by kernel_rfl) zero_wal_Rec (by omega) (by omega) ⟨rfl, trivial⟩ rfl ?_
      refine Dr.nil ?_
      refine FinX.open (j := 12) rfl ?_
      intro u12
      refine FinX.done (F' := [(0, _), (1, _), (3, _), (4, _), (5, _), (6, _), (12, _), (13, _), (23, _), (24, _), (28, _), (36, _)]) rfl ⟨rfl, rfl, rfl, rfl, rfl, rfl, rfl, rfl, rfl, rfl, rfl, rfl, trivial⟩ ?_
      intro w6 hw6 fw6
      replace bf := bf.step hw6
      replace gv := gv.step hw6
      replace k90 := k90.step hw6
      replace dk := dk.step hw6
      replace k6 := k6.step hw6
      replace own := own.step hw6
      replace k3 := k3.step hw6
      obtain ⟨-, g36, rfl, k36, e36⟩ := fw6
      have hrx := Reads.blk (size := 2) k36 1 rfl
      have hBw6 := dk.size
      refine Seq.append rfl rfl rfl Tryz.underlying29 (by kernel_rfl) zero_wal_Rec rfl (by decide) (b := 24) (by kernel_rfl) own hrx (ones_recV (W.num, a.data)) hBw6 (by simp only [maxLen]; omega) (by omega) rfl rfl rfl ?_
      intro v2 wb own2 ha
      replace dk := dk.app own ha
      replace bf := bf.app own ha
      replace k6 := k6.appNe own ha
      replace k90 := k90.appNe own ha
      replace gv := gv.app own ha
      replace own2 : Own wb B 36 2 v2 ((recsOf segs).length + 1) (recsV (recsOf segs) ++ recsV [(W.num, a.data)]) := own2
      have hrecl : (recsOf segs').length = (recsOf segs).length + 1 := by rw [hrec]; simp
      rw [← recsV_app, ← hrec, ← hrecl] at own2
      clear own k36 hrx ha k3
      have own := own2
      clear own2
      obtain ⟨A2, c2, rfl, -⟩ := own.reads
      refine Seq.val (Runs.nilCheck rfl rfl) rfl rfl rfl ?_
      refine Seq.val (Runs.fieldB 2 rfl rfl Tryz.underlying59 rfl (by kernel_rfl)) rfl rfl rfl ?_
      refine Seq.store1 rfl rfl rfl (by kernel_rfl) rfl rfl k90 rfl rfl rfl ?_
      intro w7 pw7
      replace bf := bf.put k90 pw7 e90
      replace gv := gv.put k90 pw7 e90
      replace dk := dk.put k90 pw7 e90
      replace k6 := k6.put pw7 (by omega)
      replace own := own.put k90 pw7 e90
      replace k90 := pw7.blk
      refine Seq.nil ?_
      refine Post.weak (F' := [(0, _), (1, _), (3, _), (4, _), (5, _), (6, _), (12, _), (13, _), (23, _)]) ⟨rfl, rfl, rfl, rfl, rfl, rfl, rfl, rfl, rfl, trivial⟩ ?_
      refine Post.then_ ?_
      refine Cd.seq ?_
      refine Cd.region ?_
      refine Seq.val (Runs.move rfl rfl) rfl rfl rfl ?_
      refine Seq.val (Runs.nilCheck rfl rfl) rfl rfl rfl ?_
      refine Seq.val (Runs.fieldB 4 rfl rfl Tryz.underlying59 rfl (by kernel_rfl)) rfl rfl rfl ?_
      refine Seq.store1 rfl rfl rfl (by kernel_rfl) rfl rfl k90 rfl rfl rfl ?_
      intro w8 pw8
      replace bf := bf.put k90 pw8 e90
      replace gv := gv.put k90 pw8 e90
      replace dk := dk.put k90 pw8 e90
      replace k6 := k6.put pw8 (by omega)
      replace own := own.put k90 pw8 e90
      replace k90 := pw8.blk
      refine Seq.nil ?_
      refine Post.weak (F' := [(0, _), (1, _), (3, _), (4, _), (5, _), (6, _), (12, _), (13, _), (23, _)]) ⟨rfl, rfl, rfl, rfl, rfl, rfl, rfl, rfl, rfl, trivial⟩ ?_
      refine Post.then_ ?_
      refine Cd.seq ?_
      refine Cd.region ?_
      refine Seq.val (Runs.move rfl rfl) rfl rfl rfl ?_
      refine Seq.val (Runs.eqlI rfl rfl rfl) rfl rfl rfl ?_
      refine Seq.val (Runs.assign rfl rfl) rfl rfl rfl ?_
      refine Seq.val (Runs.assign rfl rfl) rfl rfl rfl ?_
      refine Seq.nil ?_
      refine Post.weak (F' := [(0, _), (1, _), (3, _), (4, _), (5, _), (6, _), (12, _), (13, _), (23, _)]) ⟨rfl, rfl, rfl, rfl, rfl, rfl, rfl, rfl, rfl, trivial⟩ ?_
      refine Post.then_ ?_
      refine Cd.ret ?_
      refine Post.block_ret ?_
      refine Post.then_ret ?_
      refine Post.end2 rfl rfl rfl (.inl rfl) ?_
      exact .inl ⟨D', _, segs', M', rfl, hP', ⟨⟨gd, g6, _, by rw [decide_eq_true (show 0 < W.count + 1 by omega)]; exact k90, dk, k6, own, e6⟩, e90⟩, bf⟩
    · rw [hA] at k6 dk
      rw [hA]
      refine Seq.val (Runs.assign rfl rfl) rfl rfl rfl ?_
      refine Seq.nil ?_
      refine Post.weak (F' := [(0, _), (1, _), (3, _), (4, _), (5, _), (6, _), (12, _), (13, _)]) ⟨rfl, rfl, rfl, rfl, rfl, rfl, rfl, rfl, trivial⟩ ?_
      refine Post.then_ ?_
      refine Cd.seq ?_
      refine Cd.seq ?_
      refine Cd.region ?_
      refine Seq.val (Runs.move rfl rfl) rfl rfl rfl ?_
      refine Seq.val (Runs.eqlI rfl rfl rfl) rfl rfl rfl ?_
      refine Seq.nil ?_
      refine Post.weak (F' := [(0, _), (1, _), (3, _), (4, _), (5, _), (6, _), (12, _), (13, _), (23, _)]) ⟨rfl, rfl, rfl, rfl, rfl, rfl, rfl, rfl, rfl, trivial⟩ ?_
      refine Post.then_ ?_
      refine Cd.condT rfl rfl ?_
      refine Cd.seq ?_
      refine Cd.region ?_
      refine Seq.val (Runs.assign rfl rfl) rfl rfl rfl ?_
      refine Seq.val (Runs.assign rfl rfl) rfl rfl rfl ?_
      refine Seq.nil ?_
      refine Post.weak (F' := [(0, _), (1, _), (3, _), (4, _), (5, _), (6, _), (12, _), (13, _), (23, _)]) ⟨rfl, rfl, rfl, rfl, rfl, rfl, rfl, rfl, rfl, trivial⟩ ?_
      refine Post.then_ ?_
      refine Cd.ret ?_
      refine Post.then_ret ?_
      refine Post.block_ret ?_
      refine Post.then_ret ?_
      refine Post.end2 rfl rfl rfl (.inl rfl) ?_
      exact .inr ⟨E, rfl, ⟨hoff, hownE, .inl ⟨hkd, hleft⟩⟩, ⟨⟨gd, g6, _, k90, dk, k6, own, e6⟩, e90⟩, bf⟩
  refine Cd.seq ?_
  refine Cd.region ?_
  refine Seq.val (Runs.eqlI rfl rfl rfl) rfl rfl rfl ?_
  refine Seq.val (Runs.assign rfl rfl) rfl rfl rfl ?_
  refine Seq.nil ?_
  refine Post.weak (F' := [(0, _), (1, _), (3, _), (4, _), (5, _), (12, _), (13, _), (45, _)]) ⟨rfl, rfl, rfl, rfl, rfl, rfl, rfl, rfl, trivial⟩ ?_
  refine Post.then_ ?_
  refine Cd.cond rfl (fun h => ?_) (fun h => ?_)
  · have hP' := hP.rotate
    refine Cd.seq ?_
    refine Cd.seq ?_
    refine Cd.region ?_
    refine Seq.val (Runs.move rfl rfl) rfl rfl rfl ?_
    refine Seq.val (Runs.nilCheck rfl rfl) rfl rfl rfl ?_
    refine Seq.val (Runs.fieldB 4 rfl rfl Tryz.underlying59 rfl (by kernel_rfl)) rfl rfl rfl ?_
    refine Seq.val (Runs.loadB rfl rfl Tryz.underlying4 rfl k90 rfl) rfl rfl rfl ?_
    refine Seq.nil ?_
    refine Post.weak (F' := [(0, _), (1, _), (3, _), (4, _), (5, _), (12, _), (13, _), (45, _), (50, _)]) ⟨rfl, rfl, rfl, rfl, rfl, rfl, rfl, rfl, rfl, trivial⟩ ?_
    refine Post.then_ ?_
    refine Cd.cond rfl (fun h => ?_) (fun h => ?_)
    · have h : 0 < W.count := by simpa using h
      have hrot : W.rotate = ⟨W.num + 1, 0, 0, W.broken⟩ := by unfold Wl.rotate; rw [if_pos h]
      refine Cd.seq ?_
      refine Cd.region ?_
      refine Seq.val (Runs.move rfl rfl) rfl rfl rfl ?_
      refine Seq.val (Runs.nilCheck rfl rfl) rfl rfl rfl ?_
      refine Seq.val (Runs.fieldB 3 rfl rfl Tryz.underlying59 rfl (by kernel_rfl)) rfl rfl rfl ?_
      refine Seq.val (Runs.loadB rfl rfl Tryz.underlying3 rfl k90 rfl) rfl rfl rfl ?_
      refine Seq.val (Runs.addI rfl rfl rfl (by omega) (by omega)) rfl rfl rfl ?_
      refine Seq.val (Runs.nilCheck rfl rfl) rfl rfl rfl ?_
      refine Seq.val (Runs.fieldB 3 rfl rfl Tryz.underlying59 rfl (by kernel_rfl)) rfl rfl rfl ?_
      refine Seq.store1 rfl rfl rfl (by kernel_rfl) rfl rfl k90 rfl rfl rfl ?_
      intro w2 pw2
      replace bf := bf.put k90 pw2 e90
      replace gv := gv.put k90 pw2 e90
      replace dk := dk.put k90 pw2 e90
      replace k6 := k6.put pw2 (by omega)
      replace own := own.put k90 pw2 e90
      replace k3 := k3.put pw2 (by omega)
      replace k90 := pw2.blk
      refine Seq.nil ?_
      refine Post.weak (F' := [(0, _), (1, _), (3, _), (4, _), (5, _), (12, _), (13, _), (45, _), (50, _)]) ⟨rfl, rfl, rfl, rfl, rfl, rfl, rfl, rfl, rfl, trivial⟩ ?_
      refine Post.then_ ?_
      refine Cd.region ?_
      refine Seq.val (Runs.move rfl rfl) rfl rfl rfl ?_
      refine Seq.val (Runs.nilCheck rfl rfl) rfl rfl rfl ?_
      refine Seq.val (Runs.fieldB 4 rfl rfl Tryz.underlying59 rfl (by kernel_rfl)) rfl rfl rfl ?_
      refine Seq.store1 rfl rfl rfl (by kernel_rfl) rfl rfl k90 rfl rfl rfl ?_
      intro w3 pw3
      replace bf := bf.put k90 pw3 e90
      replace gv := gv.put k90 pw3 e90
      replace dk := dk.put k90 pw3 e90
      replace k6 := k6.put pw3 (by omega)
      replace own := own.put k90 pw3 e90
      replace k3 := k3.put pw3 (by omega)
      replace k90 := pw3.blk
      refine Seq.nil ?_
      refine Post.weak (F' := [(0, _), (1, _), (3, _), (4, _), (5, _), (12, _), (13, _), (45, _), (50, _)]) ⟨rfl, rfl, rfl, rfl, rfl, rfl, rfl, rfl, rfl, trivial⟩ ?_
      refine Post.then_ ?_
      refine Cd.seq ?_
      have wk : WkAt _ B gd g6 (D.arm M) W := ⟨k6, dk⟩
      clear k6 dk
      refine Cd.weak (F' := [(0, _), (1, _), (3, _), (12, _), (13, _), (45, _), (50, _)]) ⟨rfl, rfl, rfl, rfl, rfl, rfl, rfl, trivial⟩ ?_
      refine Cd.drawJ 12 (by kernel_rfl) [] [4] (fun i h => by cases h) rfl rfl (.inl rfl) rfl (Lf B) (Lf.refl B) (fun _ _ _ => Lf.trans) (fun c w => WkAt w B gd g6 (D.arm M) (nthW W W.rotate c)) ?_
      intro w4 hw4 zw4
      replace bf := bf.step hw4
      replace gv := gv.step hw4
      replace k90 := k90.step hw4
      replace own := own.step hw4
      replace k3 := k3.step hw4
      replace wk := wk.step hw4
      refine ⟨wk, ?_⟩
      have zlt := k3.lt
      refine DJ.val rfl (Lf.refl B) rfl (fun w hG => Runs.move rfl rfl) rfl ?_
      refine DJ.val rfl (Lf.refl B) rfl (fun w hG => Runs.nilCheck rfl rfl) rfl ?_
      refine DJ.val rfl (Lf.refl B) rfl (fun w hG => Runs.fieldB 1 rfl rfl Tryz.underlying59 rfl (by kernel_rfl)) rfl ?_
      refine DJ.val rfl (Lf.refl B) rfl (fun w hG => Runs.loadB rfl rfl Tryz.underlying28 rfl (k90.lf hG) rfl) rfl ?_
      refine DJ.chain 0 rfl rfl (fun w => Enters.func rfl rfl rfl (run_enter Tryz.func29 (by kernel_rfl) rfl)) rfl (fun w hG wk => rotate_j B g6 gd (D.arm M) W w e6 wk (by omega)) ?_
      refine DJ.val rfl (Lf.refl B) rfl (fun w hG => Runs.move rfl rfl) rfl ?_
      refine DJ.val rfl (Lf.refl B) rfl (fun w hG => Runs.nilCheck rfl rfl) rfl ?_
      refine DJ.val rfl (Lf.refl B) rfl (fun w hG => Runs.fieldB 3 rfl rfl Tryz.underlying59 rfl (by kernel_rfl)) rfl ?_
      refine DJ.val rfl (Lf.refl B) rfl (fun w hG => Runs.loadB rfl rfl Tryz.underlying3 rfl (k90.lf hG) rfl) rfl ?_
      refine DJ.val rfl (Lf.refl B) rfl (fun w hG => Runs.eqlI rfl rfl rfl) rfl ?_
      refine DJ.val rfl (Lf.refl B) rfl (fun w hG => Runs.assign rfl rfl) rfl ?_
      refine DJ.val rfl (Lf.refl B) rfl (fun w hG => Runs.assign rfl rfl) rfl ?_
      refine DJ.nil ?_
      refine FinX.done (F' := [(0, _), (1, _), (3, _), (4, _), (5, _), (12, _), (13, _), (45, _), (50, _)]) rfl ⟨rfl, rfl, rfl, rfl, rfl, rfl, rfl, rfl, rfl, trivial⟩ ?_
      intro w5 hw5 fw5
      replace bf := bf.lf hw5
      replace gv := gv.lf hw5
      replace k90 := k90.lf hw5
      replace own := own.lf hw5
      replace k3 := k3.lf hw5
      clear wk
      have wk := fw5
      refine Seq.nil ?_
      refine Post.weak (F' := [(0, _), (1, _), (3, _), (4, _), (5, _), (12, _), (13, _), (45, _), (50, _)]) ⟨rfl, rfl, rfl, rfl, rfl, rfl, rfl, rfl, rfl, trivial⟩ ?_
      refine Post.then_ ?_
      refine Cd.ret ?_
      refine Post.block_ret ?_
      refine Post.then_ret ?_
      refine Post.end2 rfl rfl rfl (.inl rfl) ?_
      have wk : WkAt _ B gd g6 (D.arm M) W.rotate := wk
      refine .inl ⟨D, W.rotate, segs, M, ?_, hP', ⟨⟨gd, g6, _, ?_, wk.dk, wk.k, own, e6⟩, e90⟩, bf⟩
      · rw [hrot]; simp
      · rw [hrot]; exact k90
    · have h : ¬ (0 < W.count) := by simpa using h
      have hrot : W.rotate = W := by unfold Wl.rotate; rw [if_neg h]
      refine Cd.skip ?_
      refine Post.then_ ?_
      refine Cd.seq ?_
      have wk : WkAt _ B gd g6 (D.arm M) W := ⟨k6, dk⟩
      clear k6 dk
      refine Cd.weak (F' := [(0, _), (1, _), (3, _), (12, _), (13, _), (45, _), (50, _)]) ⟨rfl, rfl, rfl, rfl, rfl, rfl, rfl, trivial⟩ ?_
      refine Cd.drawJ 12 (by kernel_rfl) [] [4] (fun i h => by cases h) rfl rfl (.inl rfl) rfl (Lf B) (Lf.refl B) (fun _ _ _ => Lf.trans) (fun c w => WkAt w B gd g6 (D.arm M) (nthW W W.rotate c)) ?_
      intro w2 hw2 zw2
      replace bf := bf.step hw2
      replace gv := gv.step hw2
      replace k90 := k90.step hw2
      replace own := own.step hw2
      replace k3 := k3.step hw2
      replace wk := wk.step hw2
      refine ⟨wk, ?_⟩
      have zlt := k3.lt
      refine DJ.val rfl (Lf.refl B) rfl (fun w hG => Runs.move rfl rfl) rfl ?_
      refine DJ.val rfl (Lf.refl B) rfl (fun w hG => Runs.nilCheck rfl rfl) rfl ?_
      refine DJ.val rfl (Lf.refl B) rfl (fun w hG => Runs.fieldB 1 rfl rfl Tryz.underlying59 rfl (by kernel_rfl)) rfl ?_
      refine DJ.val rfl (Lf.refl B) rfl (fun w hG => Runs.loadB rfl rfl Tryz.underlying28 rfl (k90.lf hG) rfl) rfl ?_
      refine DJ.chain 0 rfl rfl (fun w => Enters.func rfl rfl rfl (run_enter Tryz.func29 (by kernel_rfl) rfl)) rfl (fun w hG wk => rotate_j B g6 gd (D.arm M) W w e6 wk (by omega)) ?_
      refine DJ.val rfl (Lf.refl B) rfl (fun w hG => Runs.move rfl rfl) rfl ?_
      refine DJ.val rfl (Lf.refl B) rfl (fun w hG => Runs.nilCheck rfl rfl) rfl ?_
      refine DJ.val rfl (Lf.refl B) rfl (fun w hG => Runs.fieldB 3 rfl rfl Tryz.underlying59 rfl (by kernel_rfl)) rfl ?_
      refine DJ.val rfl (Lf.refl B) rfl (fun w hG => Runs.loadB rfl rfl Tryz.underlying3 rfl (k90.lf hG) rfl) rfl ?_
      refine DJ.val rfl (Lf.refl B) rfl (fun w hG => Runs.eqlI rfl rfl rfl) rfl ?_
      refine DJ.val rfl (Lf.refl B) rfl (fun w hG => Runs.assign rfl rfl) rfl ?_
      refine DJ.val rfl (Lf.refl B) rfl (fun w hG => Runs.assign rfl rfl) rfl ?_
      refine DJ.nil ?_
      refine FinX.done (F' := [(0, _), (1, _), (3, _), (4, _), (5, _), (12, _), (13, _), (45, _), (50, _)]) rfl ⟨rfl, rfl, rfl, rfl, rfl, rfl, rfl, rfl, rfl, trivial⟩ ?_
      intro w3 hw3 fw3
      replace bf := bf.lf hw3
      replace gv := gv.lf hw3
      replace k90 := k90.lf hw3
      replace own := own.lf hw3
      replace k3 := k3.lf hw3
      clear wk
      have wk := fw3
      refine Seq.nil ?_
      refine Post.weak (F' := [(0, _), (1, _), (3, _), (4, _), (5, _), (12, _), (13, _), (45, _), (50, _)]) ⟨rfl, rfl, rfl, rfl, rfl, rfl, rfl, rfl, rfl, trivial⟩ ?_
      refine Post.then_ ?_
      refine Cd.ret ?_
      refine Post.block_ret ?_
      refine Post.then_ret ?_
      refine Post.end2 rfl rfl rfl (.inl rfl) ?_
      have wk : WkAt _ B gd g6 (D.arm M) W.rotate := wk
      refine .inl ⟨D, W.rotate, segs, M, ?_, hP', ⟨⟨gd, g6, _, ?_, wk.dk, wk.k, own, e6⟩, e90⟩, bf⟩
      · rw [hrot]; simp
      · rw [hrot]; exact k90
  refine Cd.seq ?_
  refine Cd.region ?_
  refine Seq.val (Runs.eqlI rfl rfl rfl) rfl rfl rfl ?_
  refine Seq.val (Runs.assign rfl rfl) rfl rfl rfl ?_
  refine Seq.nil ?_
  refine Post.weak (F' := [(0, _), (1, _), (3, _), (4, _), (5, _), (12, _), (13, _), (45, _), (71, _)]) ⟨rfl, rfl, rfl, rfl, rfl, rfl, rfl, rfl, rfl, trivial⟩ ?_
  refine Post.then_ ?_
  refine Cd.cond rfl (fun h => ?_) (fun h => ?_)
  · obtain ⟨m, hm, hm9⟩ : ∃ m : Nat, a.n % 18446744073709551616 % 900 = (m : Int) ∧ m < 900 := ⟨(a.n % 18446744073709551616 % 900).toNat, by omega, by omega⟩
    have hP' := hP.least (n := (m : Int)) (by omega)
    obtain ⟨u, hu⟩ : ∃ u : Nat, a.n % 18446744073709551616 = (u : Int) := ⟨(a.n % 18446744073709551616).toNat, by omega⟩
    refine Cd.seq ?_
    refine Cd.region ?_
    refine Seq.val (Runs.fieldB 1 rfl rfl Tryz.underlying57 rfl (by kernel_rfl)) rfl rfl rfl ?_
    refine Seq.val (Runs.loadB rfl rfl Tryz.underlying3 rfl k3 rfl) rfl rfl rfl ?_
    refine Seq.val (Runs.convU (r := u) rfl rfl Tryz.underlying3 Tryz.underlying67 hu) rfl rfl rfl ?_
    refine Seq.val (Runs.remN rfl rfl rfl (by omega) (by omega)) rfl rfl rfl ?_
    have hum : (u : Int) % 900 = (m : Int) := by rw [← hu]; exact hm
    refine Seq.val (Runs.convI (r := (m : Int)) rfl rfl Tryz.underlying67 Tryz.underlying3 (by rw [hum]; exact wrapI (by omega) (by omega))) rfl rfl rfl ?_
    refine Seq.val (Runs.assign rfl rfl) rfl rfl rfl ?_
    refine Seq.nil ?_
    refine Post.weak (F' := [(0, _), (1, _), (3, _), (4, _), (5, _), (7, _), (12, _), (13, _), (45, _), (71, _)]) ⟨rfl, rfl, rfl, rfl, rfl, rfl, rfl, rfl, rfl, rfl, trivial⟩ ?_
    refine Post.then_ ?_
    refine Cd.seq ?_
    refine Cd.seq ?_
    refine Cd.region ?_
    refine Seq.val (Runs.move rfl rfl) rfl rfl rfl ?_
    refine Seq.val (Runs.move rfl rfl) rfl rfl rfl ?_
    refine Seq.val (Runs.nilCheck rfl rfl) rfl rfl rfl ?_
    refine Seq.val (Runs.fieldB 3 rfl rfl Tryz.underlying59 rfl (by kernel_rfl)) rfl rfl rfl ?_
    refine Seq.val (Runs.loadB rfl rfl Tryz.underlying3 rfl k90 rfl) rfl rfl rfl ?_
    refine Seq.val (Runs.gtr rfl rfl rfl) rfl rfl rfl ?_
    refine Seq.nil ?_
    refine Post.weak (F' := [(0, _), (1, _), (3, _), (4, _), (5, _), (7, _), (12, _), (13, _), (45, _), (71, _), (83, _)]) ⟨rfl, rfl, rfl, rfl, rfl, rfl, rfl, rfl, rfl, rfl, rfl, trivial⟩ ?_
    refine Post.then_ ?_
    refine Cd.cond rfl (fun h => ?_) (fun h => ?_)
    · have h : (W.num : Int) < (m : Int) := by simpa using h
      have hle : W.least (m : Int) = ⟨m, 0, 0, W.broken⟩ := by unfold Wl.least; rw [if_pos h, Int.toNat_natCast]
      refine Cd.seq ?_
      refine Cd.region ?_
      refine Seq.val (Runs.move rfl rfl) rfl rfl rfl ?_
      refine Seq.val (Runs.move rfl rfl) rfl rfl rfl ?_
      refine Seq.val (Runs.nilCheck rfl rfl) rfl rfl rfl ?_
      refine Seq.val (Runs.fieldB 3 rfl rfl Tryz.underlying59 rfl (by kernel_rfl)) rfl rfl rfl ?_
      refine Seq.store1 rfl rfl rfl (by kernel_rfl) rfl rfl k90 rfl rfl rfl ?_
      intro w2 pw2
      replace bf := bf.put k90 pw2 e90
      replace gv := gv.put k90 pw2 e90
      replace dk := dk.put k90 pw2 e90
      replace k6 := k6.put pw2 (by omega)
      replace own := own.put k90 pw2 e90
      replace k3 := k3.put pw2 (by omega)
      replace k90 := pw2.blk
      refine Seq.nil ?_
      refine Post.weak (F' := [(0, _), (1, _), (3, _), (4, _), (5, _), (7, _), (12, _), (13, _), (45, _), (71, _), (83, _)]) ⟨rfl, rfl, rfl, rfl, rfl, rfl, rfl, rfl, rfl, rfl, rfl, trivial⟩ ?_
      refine Post.then_ ?_
      refine Cd.region ?_
      refine Seq.val (Runs.move rfl rfl) rfl rfl rfl ?_
      refine Seq.val (Runs.nilCheck rfl rfl) rfl rfl rfl ?_
      refine Seq.val (Runs.fieldB 4 rfl rfl Tryz.underlying59 rfl (by kernel_rfl)) rfl rfl rfl ?_
      refine Seq.store1 rfl rfl rfl (by kernel_rfl) rfl rfl k90 rfl rfl rfl ?_
      intro w3 pw3
      replace bf := bf.put k90 pw3 e90
      replace gv := gv.put k90 pw3 e90
      replace dk := dk.put k90 pw3 e90
      replace k6 := k6.put pw3 (by omega)
      replace own := own.put k90 pw3 e90
      replace k3 := k3.put pw3 (by omega)
      replace k90 := pw3.blk
      refine Seq.nil ?_
      refine Post.weak (F' := [(0, _), (1, _), (3, _), (4, _), (5, _), (7, _), (12, _), (13, _), (45, _), (71, _), (83, _)]) ⟨rfl, rfl, rfl, rfl, rfl, rfl, rfl, rfl, rfl, rfl, rfl, trivial⟩ ?_
      refine Post.then_ ?_
      refine Cd.seq ?_
      have wk : WkAt _ B gd g6 (D.arm M) W := ⟨k6, dk⟩
      clear k6 dk
      refine Cd.weak (F' := [(0, _), (1, _), (3, _), (7, _), (12, _), (13, _), (45, _), (71, _), (83, _)]) ⟨rfl, rfl, rfl, rfl, rfl, rfl, rfl, rfl, rfl, trivial⟩ ?_
      refine Cd.drawJ 13 (by kernel_rfl) [] [5] (fun i h => by cases h) rfl rfl (.inl rfl) rfl (Lf B) (Lf.refl B) (fun _ _ _ => Lf.trans) (fun c w => WkAt w B gd g6 (D.arm M) (nthW W (W.least (m : Int)) c)) ?_
      intro w4 hw4 zw4
      replace bf := bf.step hw4
      replace gv := gv.step hw4
      replace k90 := k90.step hw4
      replace own := own.step hw4
      replace k3 := k3.step hw4
      replace wk := wk.step hw4
      refine ⟨wk, ?_⟩
      have zlt := k3.lt
      refine DJ.val rfl (Lf.refl B) rfl (fun w hG => Runs.move rfl rfl) rfl ?_
      refine DJ.val rfl (Lf.refl B) rfl (fun w hG => Runs.nilCheck rfl rfl) rfl ?_
      refine DJ.val rfl (Lf.refl B) rfl (fun w hG => Runs.fieldB 1 rfl rfl Tryz.underlying59 rfl (by kernel_rfl)) rfl ?_
      refine DJ.val rfl (Lf.refl B) rfl (fun w hG => Runs.loadB rfl rfl Tryz.underlying28 rfl (k90.lf hG) rfl) rfl ?_
      refine DJ.val rfl (Lf.refl B) rfl (fun w hG => Runs.move rfl rfl) rfl ?_
      refine DJ.chain 0 rfl rfl (fun w => Enters.func rfl rfl rfl (run_enter Tryz.func30 (by kernel_rfl) rfl)) rfl (fun w hG wk => least_j B g6 gd (D.arm M) (m : Int) W w e6 wk (by omega)) ?_
      refine DJ.val rfl (Lf.refl B) rfl (fun w hG => Runs.move rfl rfl) rfl ?_
      refine DJ.val rfl (Lf.refl B) rfl (fun w hG => Runs.nilCheck rfl rfl) rfl ?_
      refine DJ.val rfl (Lf.refl B) rfl (fun w hG => Runs.fieldB 3 rfl rfl Tryz.underlying59 rfl (by kernel_rfl)) rfl ?_
      refine DJ.val rfl (Lf.refl B) rfl (fun w hG => Runs.loadB rfl rfl Tryz.underlying3 rfl (k90.lf hG) rfl) rfl ?_
      refine DJ.val rfl (Lf.refl B) rfl (fun w hG => Runs.eqlI rfl rfl rfl) rfl ?_
      refine DJ.val rfl (Lf.refl B) rfl (fun w hG => Runs.assign rfl rfl) rfl ?_
      refine DJ.val rfl (Lf.refl B) rfl (fun w hG => Runs.assign rfl rfl) rfl ?_
      refine DJ.nil ?_
      refine FinX.done (F' := [(0, _), (1, _), (3, _), (4, _), (5, _), (7, _), (12, _), (13, _), (45, _), (71, _), (83, _)]) rfl ⟨rfl, rfl, rfl, rfl, rfl, rfl, rfl, rfl, rfl, rfl, rfl, trivial⟩ ?_
      intro w5 hw5 fw5
      replace bf := bf.lf hw5
      replace gv := gv.lf hw5
      replace k90 := k90.lf hw5
      replace own := own.lf hw5
      replace k3 := k3.lf hw5
      clear wk
      have wk := fw5
      refine Seq.nil ?_
      refine Post.weak (F' := [(0, _), (1, _), (3, _), (4, _), (5, _), (7, _), (12, _), (13, _), (45, _), (71, _), (83, _)]) ⟨rfl, rfl, rfl, rfl, rfl, rfl, rfl, rfl, rfl, rfl, rfl, trivial⟩ ?_
      refine Post.then_ ?_
      refine Cd.ret ?_
      refine Post.block_ret ?_
      refine Post.then_ret ?_
      refine Post.end2 rfl rfl rfl (.inl rfl) ?_
      have wk : WkAt _ B gd g6 (D.arm M) (W.least (m : Int)) := wk
      refine .inl ⟨D, W.least (m : Int), segs, M, ?_, hP', ⟨⟨gd, g6, _, ?_, wk.dk, wk.k, own, e6⟩, e90⟩, bf⟩
      · rw [hle]; simp
      · rw [hle]; exact k90
    · have h : ¬ ((W.num : Int) < (m : Int)) := by simpa using h
      have hle : W.least (m : Int) = W := by unfold Wl.least; rw [if_neg h]
      refine Cd.skip ?_
      refine Post.then_ ?_
      refine Cd.seq ?_
      have wk : WkAt _ B gd g6 (D.arm M) W := ⟨k6, dk⟩
      clear k6 dk
      refine Cd.weak (F' := [(0, _), (1, _), (3, _), (7, _), (12, _), (13, _), (45, _), (71, _), (83, _)]) ⟨rfl, rfl, rfl, rfl, rfl, rfl, rfl, rfl, rfl, trivial⟩ ?_
      refine Cd.drawJ 13 (by kernel_rfl) [] [5] (fun i h => by cases h) rfl rfl (.inl rfl) rfl (Lf B) (Lf.refl B) (fun _ _ _ => Lf.trans) (fun c w => WkAt w B gd g6 (D.arm M) (nthW W (W.least (m : Int)) c)) ?_
      intro w2 hw2 zw2
      replace bf := bf.step hw2
      replace gv := gv.step hw2
      replace k90 := k90.step hw2
      replace own := own.step hw2
      replace k3 := k3.step hw2
      replace wk := wk.step hw2
      refine ⟨wk, ?_⟩
      have zlt := k3.lt
      refine DJ.val rfl (Lf.refl B) rfl (fun w hG => Runs.move rfl rfl) rfl ?_
      refine DJ.val rfl (Lf.refl B) rfl (fun w hG => Runs.nilCheck rfl rfl) rfl ?_
      refine DJ.val rfl (Lf.refl B) rfl (fun w hG => Runs.fieldB 1 rfl rfl Tryz.underlying59 rfl (by kernel_rfl)) rfl ?_
      refine DJ.val rfl (Lf.refl B) rfl (fun w hG => Runs.loadB rfl rfl Tryz.underlying28 rfl (k90.lf hG) rfl) rfl ?_
      refine DJ.val rfl (Lf.refl B) rfl (fun w hG => Runs.move rfl rfl) rfl ?_
      refine DJ.chain 0 rfl rfl (fun w => Enters.func rfl rfl rfl (run_enter Tryz.func30 (by kernel_rfl) rfl)) rfl (fun w hG wk => least_j B g6 gd (D.arm M) (m : Int) W w e6 wk (by omega)) ?_
      refine DJ.val rfl (Lf.refl B) rfl (fun w hG => Runs.move rfl rfl) rfl ?_
      refine DJ.val rfl (Lf.refl B) rfl (fun w hG => Runs.nilCheck rfl rfl) rfl ?_
      refine DJ.val rfl (Lf.refl B) rfl (fun w hG => Runs.fieldB 3 rfl rfl Tryz.underlying59 rfl (by kernel_rfl)) rfl ?_
      refine DJ.val rfl (Lf.refl B) rfl (fun w hG => Runs.loadB rfl rfl Tryz.underlying3 rfl (k90.lf hG) rfl) rfl ?_
      refine DJ.val rfl (Lf.refl B) rfl (fun w hG => Runs.eqlI rfl rfl rfl) rfl ?_
      refine DJ.val rfl (Lf.refl B) rfl (fun w hG => Runs.assign rfl rfl) rfl ?_
      refine DJ.val rfl (Lf.refl B) rfl (fun w hG => Runs.assign rfl rfl) rfl ?_
      refine DJ.nil ?_
      refine FinX.done (F' := [(0, _), (1, _), (3, _), (4, _), (5, _), (7, _), (12, _), (13, _), (45, _), (71, _), (83, _)]) rfl ⟨rfl, rfl, rfl, rfl, rfl, rfl, rfl, rfl, rfl, rfl, rfl, trivial⟩ ?_
      intro w3 hw3 fw3
      replace bf := bf.lf hw3
      replace gv := gv.lf hw3
      replace k90 := k90.lf hw3
      replace own := own.lf hw3
      replace k3 := k3.lf hw3
      clear wk
      have wk := fw3
      refine Seq.nil ?_
      refine Post.weak (F' := [(0, _), (1, _), (3, _), (4, _), (5, _), (7, _), (12, _), (13, _), (45, _), (71, _), (83, _)]) ⟨rfl, rfl, rfl, rfl, rfl, rfl, rfl, rfl, rfl, rfl, rfl, trivial⟩ ?_
      refine Post.then_ ?_
      refine Cd.ret ?_
      refine Post.block_ret ?_
      refine Post.then_ret ?_
      refine Post.end2 rfl rfl rfl (.inl rfl) ?_
      have wk : WkAt _ B gd g6 (D.arm M) (W.least (m : Int)) := wk
      refine .inl ⟨D, W.least (m : Int), segs, M, ?_, hP', ⟨⟨gd, g6, _, ?_, wk.dk, wk.k, own, e6⟩, e90⟩, bf⟩
      · rw [hle]; simp
      · rw [hle]; exact k90
  refine Cd.seq ?_
  refine Cd.region ?_
  refine Seq.val (Runs.eqlI rfl rfl rfl) rfl rfl rfl ?_
  refine Seq.val (Runs.assign rfl rfl) rfl rfl rfl ?_
  refine Seq.nil ?_
  refine Post.weak (F' := [(0, _), (1, _), (3, _), (4, _), (5, _), (12, _), (13, _), (45, _), (71, _), (102, _)]) ⟨rfl, rfl, rfl, rfl, rfl, rfl, rfl, rfl, rfl, rfl, trivial⟩ ?_
  refine Post.then_ ?_
  refine Cd.cond rfl (fun h => ?_) (fun h => ?_)
  · have hkd : a.kind = 2 := by simpa using h
    have hown := hP.wl.log.own_nm
    refine Cd.seq ?_
    refine Cd.draw 6 (by kernel_rfl) [] (.inl rfl) rfl Grow Grow.refl (fun _ _ _ => Grow.trans) ?_
    intro w2 hw2 zw2
    replace bf := bf.step hw2
    replace gv := gv.step hw2
    replace k90 := k90.step hw2
    replace dk := dk.step hw2
    replace k6 := k6.step hw2
    replace own := own.step hw2
    replace k3 := k3.step hw2
    have zlt := k3.lt
    refine Dr.val Grow.refl rfl (fun w hG => Runs.move rfl rfl) rfl ?_
    refine Dr.val Grow.refl rfl (fun w hG => Runs.nilCheck rfl rfl) rfl ?_
    refine Dr.val Grow.refl rfl (fun w hG => Runs.fieldB 1 rfl rfl Tryz.underlying59 rfl (by kernel_rfl)) rfl ?_
    refine Dr.val Grow.refl rfl (fun w hG => Runs.loadB rfl rfl Tryz.underlying28 rfl (k90.step hG) rfl) rfl ?_
    refine Dr.val Grow.refl rfl (fun w hG => Runs.fieldB 1 rfl rfl Tryz.underlying57 rfl (by kernel_rfl)) rfl ?_
    refine Dr.val Grow.refl rfl (fun w hG => Runs.loadB rfl rfl Tryz.underlying3 rfl (k3.step hG) rfl) rfl ?_
    refine Dr.nil ?_
    refine FinX.done (F' := [(0, _), (1, _), (3, _), (4, _), (5, _), (12, _), (13, _), (45, _), (71, _), (102, _), (107, _), (109, _)]) rfl ⟨rfl, rfl, rfl, rfl, rfl, rfl, rfl, rfl, rfl, rfl, rfl, rfl, trivial⟩ ?_
    intro w3 hw3 fw3
    replace bf := bf.step hw3
    replace gv := gv.step hw3
    replace k90 := k90.step hw3
    replace dk := dk.step hw3
    replace k6 := k6.step hw3
    replace own := own.step hw3
    replace k3 := k3.step hw3
    refine Seq.call (Enters.func rfl rfl rfl (run_enter Tryz.func28 (by kernel_rfl) rfl)) rfl rfl rfl (retire_any B g6 gd (D.arm M) [119] a.n W _ gv hgB e6 k6 dk (byt_one (by omega)) (by decide) hown (by omega)) ?_
    clear k6 dk
    rintro e w4 ⟨rfl, k6, dk, fw4⟩
    refine ⟨_, rfl, ?_⟩
    replace bf := bf.lf fw4
    replace gv := gv.lf fw4
    replace k90 := k90.lf fw4
    replace own := own.lf fw4
    replace k3 := k3.lf fw4
    rcases hP.retire_arm hk a.n M with ⟨D', segs', M', hA, -, hP', hrec⟩ | ⟨E, u, t, hA, hoff, hownE, hut, hu, hleft⟩
    · rw [hA] at k6 dk
      rw [hA]
      refine Seq.val (Runs.assign rfl rfl) rfl rfl rfl ?_
      refine Seq.nil ?_
      refine Post.weak (F' := [(0, _), (1, _), (3, _), (4, _), (5, _), (8, _), (12, _), (13, _), (45, _), (71, _), (102, _)]) ⟨rfl, rfl, rfl, rfl, rfl, rfl, rfl, rfl, rfl, rfl, rfl, trivial⟩ ?_
      refine Post.then_ ?_
      refine Cd.seq ?_
      refine Cd.seq ?_
      refine Cd.region ?_
      refine Seq.val (Runs.move rfl rfl) rfl rfl rfl ?_
      refine Seq.val (Runs.eqlI rfl rfl rfl) rfl rfl rfl ?_
      refine Seq.nil ?_
      refine Post.weak (F' := [(0, _), (1, _), (3, _), (4, _), (5, _), (8, _), (12, _), (13, _), (45, _), (71, _), (102, _), (112, _)]) ⟨rfl, rfl, rfl, rfl, rfl, rfl, rfl, rfl, rfl, rfl, rfl, rfl, trivial⟩ ?_
      refine Post.then_ ?_
      refine Cd.condF rfl rfl ?_
      refine Cd.skip ?_
      refine Post.then_ ?_
      refine Cd.seq ?_
      refine Cd.region ?_
      refine Seq.val (Runs.assign rfl rfl) rfl rfl rfl ?_
      refine Seq.nil ?_
      refine Post.weak (F' := [(0, _), (1, _), (3, _), (4, _), (5, _), (8, _), (9, _), (12, _), (13, _), (45, _), (71, _), (102, _), (112, _)]) ⟨rfl, rfl, rfl, rfl, rfl, rfl, rfl, rfl, rfl, rfl, rfl, rfl, rfl, trivial⟩ ?_
      refine Post.then_ ?_
      refine Cd.seq ?_
      refine Cd.seq ?_
      refine Cd.region ?_
      refine Seq.val (Runs.assign rfl rfl) rfl rfl rfl ?_
      refine Seq.nil ?_
      refine Post.weak (F' := [(0, _), (1, _), (3, _), (4, _), (5, _), (8, _), (9, _), (10, _), (12, _), (13, _), (45, _), (71, _), (102, _), (112, _)]) ⟨rfl, rfl, rfl, rfl, rfl, rfl, rfl, rfl, rfl, rfl, rfl, rfl, rfl, rfl, trivial⟩ ?_
      refine Post.then_ ?_
      refine Cd.block ?_
      obtain ⟨L, hL⟩ : ∃ L, L = recsOf segs := ⟨_, rfl⟩
      obtain ⟨lim, hlim⟩ : ∃ lim, lim = min a.n (W.num : Int) := ⟨_, rfl⟩
      rw [← hL] at own k90 hrl hrec
      rw [← hlim] at hrec
      obtain ⟨A0', c0', hv0, hr0⟩ := own.reads
      injection hv0 with e1 _ e2
      subst e1 e2
      clear own
      have bel := Below.refl w4.heap.size w4
      have own9 := Own.nil w4 w4.heap.size 36 2
      have hBw4 := dk.size
      refine Cd.loop (σ := Nat × Value) (fun q => [(0, .pointer (some ⟨gr, 0, none⟩)), (3, .pointer (some ⟨g3, 0, none⟩)), (8, .int .i64 0), (9, q.2), (10, .int .i64 (q.1 : Int))]) (fun q wr => q.1 ≤ L.length ∧ Below w4.heap.size w4 wr ∧ Own wr w4.heap.size 36 2 q.2 ((L.take q.1).filter fun r => decide (lim ≤ (r.1 : Int))).length (recsV ((L.take q.1).filter fun r => decide (lim ≤ (r.1 : Int))))) (fun q => L.length - q.1) (0, .slice none 0 0) ⟨Nat.zero_le _, bel, own9⟩ ⟨rfl, rfl, rfl, rfl, rfl, trivial⟩ ?_
      clear bel own9
      rintro ⟨j, v9⟩ wr ⟨hj, bel, own9⟩
      simp only at hj own9
      replace bf := bf.step bel
      replace gv := gv.step bel
      replace k90 := k90.step bel
      replace dk := dk.step bel
      replace k6 := k6.step bel
      replace k3 := k3.step bel
      obtain ⟨A9, c9, rfl, -⟩ := own9.reads
      have hfl9 : ((L.take j).filter fun r => decide (lim ≤ (r.1 : Int))).length ≤ j := Nat.le_trans (List.length_filter_le _ _) (by rw [List.length_take]; omega)
      show Cd _ _ _ _ [(0, .pointer (some ⟨gr, 0, none⟩)), (3, .pointer (some ⟨g3, 0, none⟩)), (8, .int .i64 0), (9, .slice A9 ((L.take j).filter fun r => decide (lim ≤ (r.1 : Int))).length c9), (10, .int .i64 (j : Int))] _
      refine Cd.seq ?_
      refine Cd.seq ?_
      refine Cd.region ?_
      refine Seq.val (Runs.move rfl rfl) rfl rfl rfl ?_
      refine Seq.val (Runs.move rfl rfl) rfl rfl rfl ?_
      refine Seq.val (Runs.nilCheck rfl rfl) rfl rfl rfl ?_
      refine Seq.val (Runs.fieldB 2 rfl rfl Tryz.underlying59 rfl (by kernel_rfl)) rfl rfl rfl ?_
      refine Seq.val (Runs.loadB rfl rfl Tryz.underlying29 rfl k90 rfl) rfl rfl rfl ?_
      refine Seq.val (Runs.len rfl rfl Tryz.underlying29) rfl rfl rfl ?_
      refine Seq.val (Runs.lss rfl rfl rfl) rfl rfl rfl ?_
      refine Seq.nil ?_
      refine Post.weak (F' := [(0, _), (3, _), (8, _), (9, _), (10, _), (119, _)]) ⟨rfl, rfl, rfl, rfl, rfl, rfl, trivial⟩ ?_
      refine Post.then_ ?_
      refine Cd.condD rfl (fun hc => ?_) (fun hc => ?_)
      · obtain ⟨r, hr⟩ : ∃ r, L[j]? = some r := ⟨_, List.getElem?_eq_getElem (by omega)⟩
        obtain ⟨ad, rfl, -, -, -⟩ := hr0.rec (Below.refl _ _) hr
        have hcell : ∀ wx, Below w4.heap.size w4 wx → ∀ (i : Nat) (u : Value), (recV r)[i]? = some u → wx.cell? ((ad.add (j * 2)).add i) = some u := fun wx hb i u hu => by
          obtain ⟨ad', e, -, -, hcl⟩ := hr0.rec hb hr
          injection e with e
          subst e
          exact hcl i u hu
        have htk : L.take (j + 1) = L.take j ++ [r] := take_last hr
        have hlimW : min a.n (W.num : Int) = lim := hlim.symm
        refine Cd.skip ?_
        refine Post.then_ ?_
        refine Cd.seq ?_
        refine Cd.block ?_
        refine Cd.seq ?_
        refine Cd.draw 16 (by kernel_rfl) [] (.inl rfl) rfl Grow Grow.refl (fun _ _ _ => Grow.trans) ?_
        intro w5 hw5 zw5
        replace bf := bf.step hw5
        replace gv := gv.step hw5
        replace dk := dk.step hw5
        replace k6 := k6.step hw5
        replace bel := bel.step hw5
        replace own9 := own9.step hw5
        replace k3 := k3.step hw5
        replace k90 := k90.step hw5
        have zbel := bel.size
        have zlt := k90.lt
        refine Dr.val Grow.refl rfl (fun w hG => Runs.move rfl rfl) rfl ?_
        refine Dr.val Grow.refl rfl (fun w hG => Runs.nilCheck rfl rfl) rfl ?_
        refine Dr.val Grow.refl rfl (fun w hG => Runs.fieldB 2 rfl rfl Tryz.underlying59 rfl (by kernel_rfl)) rfl ?_
        refine Dr.val Grow.refl rfl (fun w hG => Runs.loadB rfl rfl Tryz.underlying29 rfl (k90.step hG) rfl) rfl ?_
        refine Dr.val Grow.refl rfl (fun w hG => Runs.move rfl rfl) rfl ?_
        refine Dr.val Grow.refl rfl (fun w hG => Runs.indexN rfl rfl rfl Tryz.underlying29 (s := 2) (by kernel_rfl) (j := j) rfl (by omega)) rfl ?_
        refine Dr.val Grow.refl rfl (fun w hG => Runs.fieldA 0 rfl rfl Tryz.underlying36 rfl (by kernel_rfl)) rfl ?_
        refine Dr.val Grow.refl rfl (fun w hG => Runs.load1 rfl rfl Tryz.underlying3 rfl (hcell w (bel.step hG) 0 _ rfl)) rfl ?_
        refine Dr.val Grow.refl rfl (fun w hG => Runs.fieldB 1 rfl rfl Tryz.underlying57 rfl (by kernel_rfl)) rfl ?_
        refine Dr.val Grow.refl rfl (fun w hG => Runs.loadB rfl rfl Tryz.underlying3 rfl (k3.step hG) rfl) rfl ?_
        refine Dr.val Grow.refl rfl (fun w hG => Runs.move rfl rfl) rfl ?_
        refine Dr.val Grow.refl rfl (fun w hG => Runs.nilCheck rfl rfl) rfl ?_
        refine Dr.val Grow.refl rfl (fun w hG => Runs.fieldB 3 rfl rfl Tryz.underlying59 rfl (by kernel_rfl)) rfl ?_
        refine Dr.val Grow.refl rfl (fun w hG => Runs.loadB rfl rfl Tryz.underlying3 rfl (k90.step hG) rfl) rfl ?_
        refine Dr.val Grow.refl rfl (fun w hG => Runs.min2 rfl rfl rfl) rfl ?_
        refine Dr.val Grow.refl rfl (fun w hG => Runs.geq rfl rfl rfl) rfl ?_
        refine Dr.nil ?_
        refine FinX.done (F' := [(0, _), (3, _), (8, _), (9, _), (10, _), (119, _), (137, _)]) rfl ⟨rfl, rfl, rfl, rfl, rfl, rfl, rfl, trivial⟩ ?_
        intro w6 hw6 fw6
        replace bf := bf.step hw6
        replace gv := gv.step hw6
        replace dk := dk.step hw6
        replace k6 := k6.step hw6
        replace bel := bel.step hw6
        replace own9 := own9.step hw6
        replace k3 := k3.step hw6
        replace k90 := k90.step hw6
        refine Seq.nil ?_
        refine Post.weak (F' := [(0, _), (3, _), (8, _), (9, _), (10, _), (119, _), (137, _)]) ⟨rfl, rfl, rfl, rfl, rfl, rfl, rfl, trivial⟩ ?_
        refine Post.then_ ?_
        rw [hlimW]
        refine Cd.cond rfl (fun h => ?_) (fun h => ?_)
        · have h : lim ≤ (r.1 : Int) := by simpa using h
          have hF : (L.take (j + 1)).filter (fun r => decide (lim ≤ (r.1 : Int))) = (L.take j).filter (fun r => decide (lim ≤ (r.1 : Int))) ++ [r] := by
            rw [htk, List.filter_append]
            congr 1
            simp [h]
          refine Cd.region ?_
          refine Seq.val (Runs.move rfl rfl) rfl rfl rfl ?_
          refine Seq.val (Runs.move rfl rfl) rfl rfl rfl ?_
          refine Seq.val (Runs.nilCheck rfl rfl) rfl rfl rfl ?_
          refine Seq.val (Runs.fieldB 2 rfl rfl Tryz.underlying59 rfl (by kernel_rfl)) rfl rfl rfl ?_
          refine Seq.val (Runs.loadB rfl rfl Tryz.underlying29 rfl k90 rfl) rfl rfl rfl ?_
          refine Seq.val (Runs.move rfl rfl) rfl rfl rfl ?_
          refine Seq.val (Runs.indexN rfl rfl rfl Tryz.underlying29 (s := 2) (by kernel_rfl) (j := j) rfl (by omega)) rfl rfl rfl ?_
          refine Seq.val (Runs.loadCs rfl rfl Tryz.underlying36 rfl (m := 2) (ps := recV r) (by kernel_rfl) rfl (fun i u hu => hcell _ bel i u hu)) rfl rfl rfl ?_
          refine Seq.slice (vs := [_]) (s := 2) rfl rfl rfl Tryz.underlying29 (by kernel_rfl) (zero_wal_Rec) (by omega) (by omega) ⟨rfl, trivial⟩ rfl rfl rfl ?_
          intro g146 w7 n146
          have e146 := Nat.le_trans bel.size n146.ge
          have l146 := Nat.lt_of_lt_of_le k90.lt n146.ge
          replace bf := bf.step n146.below
          replace gv := gv.step n146.below
          replace dk := dk.step n146.below
          replace k6 := k6.step n146.below
          replace bel := bel.step n146.below
          replace own9 := own9.step n146.below
          replace k3 := k3.step n146.below
          replace k90 := k90.step n146.below
          have k146 := n146.blk
          have hrx := Reads.blk (size := 2) k146 1 rfl
          refine Seq.append rfl rfl rfl Tryz.underlying29 (by kernel_rfl) zero_wal_Rec rfl (by decide) (b := 24) (by kernel_rfl) own9 hrx (ones_recV r) bel.size (by simp only [maxLen]; omega) (by omega) rfl rfl rfl ?_
          intro v2 wb own2 ha
          replace bel := bel.trans ha.below
          replace own2 : Own wb w4.heap.size 36 2 v2 (((L.take j).filter fun r => decide (lim ≤ (r.1 : Int))).length + 1) (recsV ((L.take j).filter fun r => decide (lim ≤ (r.1 : Int))) ++ recsV [r]) := own2
          have hFl : ((L.take (j + 1)).filter fun r => decide (lim ≤ (r.1 : Int))).length = ((L.take j).filter fun r => decide (lim ≤ (r.1 : Int))).length + 1 := by rw [hF]; simp
          rw [← recsV_app, ← hF, ← hFl] at own2
          clear own9 k146 hrx ha bf gv dk k6 k3 k90
          refine Seq.val (Runs.assign rfl rfl) rfl rfl rfl ?_
          refine Seq.nil ?_
          refine Post.weak (F' := [(0, _), (3, _), (8, _), (9, _), (10, _), (119, _), (137, _)]) ⟨rfl, rfl, rfl, rfl, rfl, rfl, rfl, trivial⟩ ?_
          refine Post.block_normal ?_
          refine Post.then_ ?_
          refine Cd.region ?_
          refine Seq.val (Runs.move rfl rfl) rfl rfl rfl ?_
          refine Seq.val (Runs.addI rfl rfl rfl (by omega) (by omega)) rfl rfl rfl ?_
          refine Seq.val (Runs.assign rfl rfl) rfl rfl rfl ?_
          refine Seq.nil ?_
          refine Post.weak (F' := [(0, _), (3, _), (8, _), (9, _), (10, _), (119, _), (137, _)]) ⟨rfl, rfl, rfl, rfl, rfl, rfl, rfl, trivial⟩ ?_
          exact Post.round (j + 1, v2) ⟨rfl, rfl, rfl, rfl, int_at (by omega), trivial⟩ ⟨by simp only; omega, bel, own2⟩ (by simp only; omega)
        · have h : ¬ (lim ≤ (r.1 : Int)) := by simpa using h
          have hF : (L.take (j + 1)).filter (fun r => decide (lim ≤ (r.1 : Int))) = (L.take j).filter (fun r => decide (lim ≤ (r.1 : Int))) := by
            rw [htk, List.filter_append]
            simp [h]
          refine Cd.skip ?_
          refine Post.block_normal ?_
          refine Post.then_ ?_
          refine Cd.region ?_
          refine Seq.val (Runs.move rfl rfl) rfl rfl rfl ?_
          refine Seq.val (Runs.addI rfl rfl rfl (by omega) (by omega)) rfl rfl rfl ?_
          refine Seq.val (Runs.assign rfl rfl) rfl rfl rfl ?_
          refine Seq.nil ?_
          refine Post.weak (F' := [(0, _), (3, _), (8, _), (9, _), (10, _), (119, _), (137, _)]) ⟨rfl, rfl, rfl, rfl, rfl, rfl, rfl, trivial⟩ ?_
          refine Post.round (j + 1, .slice A9 ((L.take j).filter fun r => decide (lim ≤ (r.1 : Int))).length c9) ⟨rfl, rfl, rfl, rfl, int_at (by omega), trivial⟩ ⟨by simp only; omega, bel, ?_⟩ (by simp only; omega)
          simp only
          rw [hF]
          exact own9
      · obtain rfl : j = L.length := by omega
        rw [List.take_length] at own9
        rw [List.take_length]
        rw [← hrec] at own9
        rw [← hrec]
        refine Cd.exit ?_
        refine Post.then_exit ?_
        refine Post.round_exit ?_
        refine Post.block_exit ?_
        refine Post.then_ ?_
        refine Cd.seq ?_
        refine Cd.region ?_
        refine Seq.val (Runs.move rfl rfl) rfl rfl rfl ?_
        refine Seq.val (Runs.move rfl rfl) rfl rfl rfl ?_
        refine Seq.val (Runs.nilCheck rfl rfl) rfl rfl rfl ?_
        refine Seq.val (Runs.fieldB 2 rfl rfl Tryz.underlying59 rfl (by kernel_rfl)) rfl rfl rfl ?_
        refine Seq.store1 rfl rfl rfl (by kernel_rfl) rfl rfl k90 rfl rfl rfl ?_
        intro w5 pw5
        replace bf := bf.put k90 pw5 e90
        replace gv := gv.put k90 pw5 e90
        replace dk := dk.put k90 pw5 e90
        replace k6 := k6.put pw5 (by omega)
        replace own9 := own9.put k90 pw5 e90
        replace k3 := k3.put pw5 (by omega)
        replace k90 := pw5.blk
        refine Seq.nil ?_
        refine Post.weak (F' := [(0, _), (3, _), (8, _), (9, _), (10, _), (119, _)]) ⟨rfl, rfl, rfl, rfl, rfl, rfl, trivial⟩ ?_
        refine Post.then_ ?_
        refine Cd.seq ?_
        refine Cd.region ?_
        refine Seq.val (Runs.move rfl rfl) rfl rfl rfl ?_
        refine Seq.val (Runs.eqlI rfl rfl rfl) rfl rfl rfl ?_
        refine Seq.val (Runs.assign rfl rfl) rfl rfl rfl ?_
        refine Seq.val (Runs.assign rfl rfl) rfl rfl rfl ?_
        refine Seq.nil ?_
        refine Post.weak (F' := [(0, _), (3, _), (4, _), (5, _), (8, _), (9, _), (10, _), (119, _)]) ⟨rfl, rfl, rfl, rfl, rfl, rfl, rfl, rfl, trivial⟩ ?_
        refine Post.then_ ?_
        refine Cd.ret ?_
        refine Post.block_ret ?_
        refine Post.then_ret ?_
        refine Post.end2 rfl rfl rfl (.inl rfl) ?_
        exact .inl ⟨D', W, segs', M', rfl, hP', ⟨⟨gd, g6, _, k90, dk, k6, own9.mono hBw4, e6⟩, e90⟩, bf⟩
    · rw [hA] at k6 dk
      rw [hA]
      refine Seq.val (Runs.assign rfl rfl) rfl rfl rfl ?_
      refine Seq.nil ?_
      refine Post.weak (F' := [(0, _), (1, _), (3, _), (4, _), (5, _), (8, _), (12, _), (13, _), (45, _), (71, _), (102, _)]) ⟨rfl, rfl, rfl, rfl, rfl, rfl, rfl, rfl, rfl, rfl, rfl, trivial⟩ ?_
      refine Post.then_ ?_
      refine Cd.seq ?_
      refine Cd.seq ?_
      refine Cd.region ?_
      refine Seq.val (Runs.move rfl rfl) rfl rfl rfl ?_
      refine Seq.val (Runs.eqlI rfl rfl rfl) rfl rfl rfl ?_
      refine Seq.nil ?_
      refine Post.weak (F' := [(0, _), (1, _), (3, _), (4, _), (5, _), (8, _), (12, _), (13, _), (45, _), (71, _), (102, _), (112, _)]) ⟨rfl, rfl, rfl, rfl, rfl, rfl, rfl, rfl, rfl, rfl, rfl, rfl, trivial⟩ ?_
      refine Post.then_ ?_
      refine Cd.condT rfl rfl ?_
      refine Cd.seq ?_
      refine Cd.region ?_
      refine Seq.val (Runs.assign rfl rfl) rfl rfl rfl ?_
      refine Seq.val (Runs.assign rfl rfl) rfl rfl rfl ?_
      refine Seq.nil ?_
      refine Post.weak (F' := [(0, _), (1, _), (3, _), (4, _), (5, _), (8, _), (12, _), (13, _), (45, _), (71, _), (102, _), (112, _)]) ⟨rfl, rfl, rfl, rfl, rfl, rfl, rfl, rfl, rfl, rfl, rfl, rfl, trivial⟩ ?_
      refine Post.then_ ?_
      refine Cd.ret ?_
      refine Post.then_ret ?_
      refine Post.block_ret ?_
      refine Post.then_ret ?_
      refine Post.end2 rfl rfl rfl (.inl rfl) ?_
      exact .inr ⟨E, rfl, ⟨hoff, hownE, .inr ⟨hkd, u, t, hut, hu, hleft⟩⟩, ⟨⟨gd, g6, _, k90, dk, k6, own, e6⟩, e90⟩, bf⟩
  exfalso
  simp at *
  omega
end Go.Proofs.YtnlepoplncjliaaGreatDoor

namespace Go.Proofs.YtnlepoplncjliaaGreatDoor
open Go.RowKit

/-- One file's bytes turned. -/
theorem GenIs.turned {D D2 : Dk} {nm : List Nat} {a r : List (Nat × (List Nat × List Nat))} {g g' : Nat × (List Nat × List Nat)} {x t : List Nat} (h : GenIs D nm (a ++ g :: r)) (hc : D2.calm) (hn : (D2.files.map (·.1)).Nodup) (hx : (D.get x).isSome = true) (hg : ∀ y, D2.get y = if y = x then some (full t) else D.get y) (he : (x = fileN nm g.1 logK ∧ g' = (g.1, (t, g.2.2))) ∨ (x = fileN nm g.1 ackK ∧ g' = (g.1, (g.2.1, t)))) : GenIs D2 nm (a ++ g' :: r) := by
  have hgm : g ∈ a ++ g :: r := by simp
  have hg6 := h.le g hgm
  have hg1 : g'.1 = g.1 := by rcases he with ⟨-, e⟩ | ⟨-, e⟩ <;> rw [e]
  have hla : fileN nm g.1 logK ≠ fileN nm g.1 ackK := fun e => by
    have := (fileN_inj hg6 hg6 e).2
    revert this
    decide
  have hinc := h.inc
  rw [List.map_append, List.map_cons, List.pairwise_append, List.pairwise_cons] at hinc
  obtain ⟨i1, ⟨i2, i3⟩, i4⟩ := hinc
  have hne : ∀ t ∈ a ++ r, t.1 ≠ g.1 := fun t ht e => by
    rcases List.mem_append.1 ht with ht | ht
    · have := i4 t.1 (List.mem_map.2 ⟨t, ht, rfl⟩) g.1 (by simp)
      omega
    · have := i2 t.1 (List.mem_map.2 ⟨t, ht, rfl⟩)
      omega
  have hsub : ∀ t ∈ a ++ r, t ∈ a ++ g :: r := fun t ht => by
    rcases List.mem_append.1 ht with ht | ht
    · exact List.mem_append_left _ ht
    · exact List.mem_append_right _ (List.mem_cons_of_mem _ ht)
  have hsome : ∀ y, (D2.get y).isSome = (D.get y).isSome := fun y => by
    rw [hg]
    by_cases e : y = x
    · rw [if_pos e, e, hx]; rfl
    · rw [if_neg e]
  have hdat : ∀ y, D2.datN y = if y = x then t else D.datN y := fun y => by
    unfold Dk.datN
    rw [hg]
    by_cases e : y = x
    · rw [if_pos e, if_pos e]; rfl
    · rw [if_neg e, if_neg e]
  have hxo : ∀ u ∈ a ++ r, ∀ k : List Nat, fileN nm u.1 k ≠ x := fun u hu k e => by
    have hu6 := h.le u (hsub u hu)
    rcases he with ⟨e1, -⟩ | ⟨e1, -⟩ <;> exact hne u hu (fileN_inj hu6 hg6 (e.trans e1)).1
  have hme : ∀ u, u ∈ a ++ g' :: r → u = g' ∨ u ∈ a ++ r := fun u hu => by
    rcases List.mem_append.1 hu with hu | hu
    · exact .inr (List.mem_append_left _ hu)
    · rcases List.mem_cons.1 hu with hu | hu
      · exact .inl hu
      · exact .inr (List.mem_append_right _ hu)
  refine ⟨hc, hn, ?_, fun u hu => ?_, fun u hu => ?_, fun u hu => ?_, fun u hu => ?_, fun y hy => ?_, fun y f hf => ?_⟩
  · have := h.inc
    rw [List.map_append, List.map_cons] at this ⊢
    rw [hg1]
    exact this
  · rcases hme u hu with e | e
    · rw [e, hg1]; exact hg6
    · exact h.le u (hsub u e)
  · rcases hme u hu with e | e
    · rw [e, hg1, hdat]
      rcases he with ⟨e1, e2⟩ | ⟨e1, e2⟩
      · rw [if_pos e1.symm, e2]
      · rw [if_neg (fun e3 => hla (e3.trans e1)), e2]
        exact h.log g hgm
    · rw [hdat, if_neg (hxo u e _)]
      exact h.log u (hsub u e)
  · rcases hme u hu with e | e
    · rw [e, hg1, hdat]
      rcases he with ⟨e1, e2⟩ | ⟨e1, e2⟩
      · rw [if_neg (fun e3 => hla (e1.symm.trans e3.symm)), e2]
        exact h.ack g hgm
      · rw [if_pos e1.symm, e2]
    · rw [hdat, if_neg (hxo u e _)]
      exact h.ack u (hsub u e)
  · rcases hme u hu with e | e
    · rw [e, hg1, hsome, hsome]
      exact h.there g hgm
    · rw [hsome, hsome]
      exact h.there u (hsub u e)
  · rw [hsome] at hy
    obtain ⟨u, hu, e⟩ := h.own y hy
    rcases List.mem_append.1 hu with hu | hu
    · exact ⟨u, List.mem_append_left _ hu, e⟩
    · rcases List.mem_cons.1 hu with hu | hu
      · refine ⟨g', by simp, ?_⟩
        rw [hg1, ← hu]
        exact e
      · exact ⟨u, List.mem_append_right _ (List.mem_cons_of_mem _ hu), e⟩
  · rw [hg] at hf
    split at hf
    · injection hf with hf; rw [← hf]; rfl
    · exact h.safe y f hf
theorem Nice.known {t : List Nat × List Nat} (h : Nice t) : (knownN t).2.2 = true ∧ (knownN t).1.length ≤ 131072 := by
  obtain ⟨R, h1, h2, -, h3, -⟩ := h.settle (n := 0)
  exact ⟨h2, by rw [h1]; exact h3⟩
theorem recsG_cons (g : Nat × (List Nat × List Nat)) (r : List (Nat × (List Nat × List Nat))) : recsG (g :: r) = ((knownN g.2).1.map fun x => (g.1, x)) ++ recsG r := by simp [recsG]
/-- Opened once more behind a burst. -/
theorem lasts {D1 : Dk} {gs : List (Nat × (List Nat × List Nat))} (h : GenIs D1 [119] (gs.map settle)) (hN : ∀ g ∈ gs, Nice g.2) (hl : gs.length ≤ 40) (hf : D1.files.length ≤ 110) (hu : D1.used ≤ 20480) (hr : D1.room = 1048576) {x : List Nat} {f : Fil} (hx : D1.get x = some f) (hb : Byt f.data) (at_ bits : Nat) :
    f.safe = f.data.length ∧ ((∃ D2 nx, openW (D1.set x ⟨rotN f.safe at_ bits f.data, f.safe⟩) [119] = (D2, 0, recsG gs, nx)) ∨ ((∃ D2, openW (D1.set x ⟨rotN f.safe at_ bits f.data, f.safe⟩) [119] = (D2, 9, [], 0)) ∧ bits ≠ 0)) := by
  have hsafe := h.safe x f hx
  refine ⟨hsafe, ?_⟩
  have hburst := rotN_burst (safe := f.safe) (at_ := at_) (bits := bits) hb (Nat.le_of_eq hsafe)
  have hzero : bits = 0 → rotN f.safe at_ bits f.data = f.data := fun e => by rw [e]; exact rotN_zero
  obtain ⟨t, ht⟩ : ∃ t, t = rotN f.safe at_ bits f.data := ⟨_, rfl⟩
  rw [← ht] at hburst hzero
  rw [← ht]
  obtain ⟨D', hD'⟩ : ∃ D', D' = D1.set x ⟨t, f.safe⟩ := ⟨_, rfl⟩
  have hfull : (⟨t, f.safe⟩ : Fil) = full t := by rw [hsafe, hburst.len]; rfl
  have hget : ∀ y, D'.get y = if y = x then some (full t) else D1.get y := fun y => by rw [hD', set_get, hx, ← hfull]; rfl
  have hnames : D'.files.map (·.1) = D1.files.map (·.1) := by rw [hD']; exact set_names _ _ _
  have hcalm : D'.calm := by rw [hD']; exact ⟨h.calm.off, h.calm.armed⟩
  have hroom : D'.room = D1.room := by rw [hD']; rfl
  have hflen : D'.files.length = D1.files.length := by have := congrArg List.length hnames; simpa using this
  have hused : D'.used = D1.used := by
    rw [hD']
    show ((usedL (D1.files.map _) : Nat) : Int) = ((usedL D1.files : Nat) : Int)
    rw [usedL_set]
    intro p hp e
    have h2 := get_of_mem h.nd hp
    rw [e, hx] at h2
    injection h2 with h2
    rw [← h2]
    exact hburst.len
  rw [← hD']
  obtain ⟨s, hs, hxs⟩ := h.own x (by rw [hx]; rfl)
  obtain ⟨g, hg, rfl⟩ := List.mem_map.1 hs
  obtain ⟨ga, gr, rfl⟩ := List.append_of_mem hg
  rw [List.map_append, List.map_cons] at h
  rw [List.length_append, List.length_cons] at hl
  obtain ⟨R, k1, k2, k3, k4, k5⟩ := (hN g (by simp)).settle (n := g.1)
  obtain ⟨S, hS⟩ : ∃ S, S = (settle (g.1, g.2)).2 := ⟨_, rfl⟩
  have hset : settle g = (g.1, S) := by rw [hS]; rfl
  rw [← hS] at k5
  rw [hset] at h hxs
  simp only at hxs
  have hdat : D1.datN x = f.data := by unfold Dk.datN; rw [hx]; rfl
  have hlog := h.log (g.1, S) (by simp)
  have hack := h.ack (g.1, S) (by simp)
  simp only at hlog hack
  obtain ⟨q1, q2⟩ := k5.same k3 k4
  obtain ⟨g', hG, hk1, hk0, hg1⟩ : ∃ g' : Nat × (List Nat × List Nat), GenIs D' [119] (ga.map settle ++ g' :: gr.map settle) ∧ ((knownN g'.2).2.2 = true → (knownN g'.2).1 = R) ∧ (bits = 0 → (knownN g'.2).2.2 = true) ∧ g'.1 = g.1 := by
    rcases hxs with e | e
    · have hfd : f.data = S.1 := by rw [← hdat, e, hlog]
      refine ⟨(g.1, (t, S.2)), h.turned hcalm (by rw [hnames]; exact h.nd) (by rw [hx]; rfl) hget (.inl ⟨e, rfl⟩), fun hk => k5.log k3 k4 (by rw [← hfd]; exact hburst) hk, fun e0 => ?_, rfl⟩
      rw [hzero e0, hfd]
      exact q2
    · have hfd : f.data = S.2 := by rw [← hdat, e, hack]
      have := k5.ack (t := t) k3 k4 (by rw [← hfd]; exact hburst)
      exact ⟨(g.1, (S.1, t)), h.turned hcalm (by rw [hnames]; exact h.nd) (by rw [hx]; rfl) hget (.inr ⟨e, rfl⟩), fun _ => this.1, fun _ => this.2, rfl⟩
  have hla : (ga.map settle).length = ga.length := List.length_map _
  have hlr : (gr.map settle).length = gr.length := List.length_map _
  have hlen : (ga.map settle ++ g' :: gr.map settle).length = ga.length + (gr.length + 1) := by rw [List.length_append, List.length_cons, hla, hlr]
  have hkn : ∀ u ∈ ga ++ g :: gr, (knownN u.2).2.2 = true ∧ (knownN u.2).1.length ≤ 131072 := fun u hu => (hN u hu).known
  have hka : ∀ u ∈ ga, (knownN u.2).2.2 = true ∧ (knownN u.2).1.length ≤ 131072 := fun u hu => hkn u (List.mem_append_left _ hu)
  have hkr : ∀ u ∈ gr, (knownN u.2).2.2 = true ∧ (knownN u.2).1.length ≤ 131072 := fun u hu => hkn u (List.mem_append_right _ (List.mem_cons_of_mem _ hu))
  have hst : ∀ l : List (Nat × (List Nat × List Nat)), (∀ u ∈ l, (knownN u.2).2.2 = true ∧ (knownN u.2).1.length ≤ 131072) → ∀ u ∈ l.map settle, (knownN u.2).2.2 = true := fun l hl2 u hu => by
    obtain ⟨v, hv, rfl⟩ := List.mem_map.1 hu
    obtain ⟨h1, h2⟩ := hl2 v hv
    rw [known_settle h1 h2]
  by_cases hk : (knownN g'.2).2.2 = true
  · left
    obtain ⟨D2, o1, -⟩ := hG.opens (by decide) (by rw [hlen]; omega) (by rw [hlen, hroom, hused]; omega) (fun u hu => by
      rcases List.mem_append.1 hu with hu | hu
      · exact hst ga hka u hu
      · rcases List.mem_cons.1 hu with hu | hu
        · rw [hu]; exact hk
        · exact hst gr hkr u hu)
    have e : recsG (ga.map settle ++ g' :: gr.map settle) = recsG (ga ++ g :: gr) := by rw [recsG_app, recsG_cons, recsG_settle hka, recsG_settle hkr, hk1 hk, hg1, recsG_app, recsG_cons, k1]
    rw [e] at o1
    exact ⟨D2, _, o1⟩
  · right
    obtain ⟨D2, o1⟩ := hG.opens_bad (by decide) (by rw [hlen]; omega) (by rw [hlen, hroom, hused]; omega) ⟨g', by simp, by simpa using hk⟩
    exact ⟨⟨D2, o1⟩, fun e0 => hk (hk0 e0)⟩
theorem lasts_none {D1 : Dk} {gs : List (Nat × (List Nat × List Nat))} (h : GenIs D1 [119] (gs.map settle)) (h0 : D1.files.length = 0) : recsG gs = [] := by
  cases gs with
  | nil => rfl
  | cons g r =>
    exfalso
    have h1 := h.there (settle g) (by simp)
    have h2 : D1.files = [] := List.eq_nil_of_length_eq_zero h0
    have hn : ∀ y, D1.get y = none := fun y => by unfold Dk.get; rw [h2]; rfl
    rw [hn, hn] at h1
    simp at h1
end Go.Proofs.YtnlepoplncjliaaGreatDoor

namespace Go.Proofs.YtnlepoplncjliaaGreatDoor
open Go.RowKit

section
variable {P : Program} {E : Operand → Option Value} {o : Oper} {w : World} {x y : Operand} {T : TypeId}
end
theorem Own.rdsW {w : World} {B size n c : Nat} {A : Option Addr} {e : TypeId} {xs : List Value} (h : Own w B e size (.slice A n c) n xs) : Reads w w.heap.size size A n xs := by
  obtain ⟨A1, c1, hv1, hr1⟩ := h.reads
  injection hv1 with e1 _ _
  subst e1
  exact hr1
end Go.Proofs.YtnlepoplncjliaaGreatDoor

namespace Go.Proofs.YtnlepoplncjliaaGreatDoor
open Go.RowKit

theorem uint_nat (a : Int) : ∃ u : Nat, a % 18446744073709551616 = (u : Int) ∧ u < 18446744073709551616 := ⟨(a % 18446744073709551616).toNat, by omega, by omega⟩
end Go.Proofs.YtnlepoplncjliaaGreatDoor

namespace Go.Proofs.YtnlepoplncjliaaGreatDoor
open Go.RowKit

theorem PlIs.upL {D : Dk} {W : Wl} {segs : List (Nat × List (List Nat))} {k : Nat} (h : PlIs D W segs k) : PlIs D W segs (k + 1) := by
  have h2 := h.files
  have h3 := h.used
  have h4 := h.num
  have h5 := h.cnt
  have h6 := h.size
  have h7 := h.recs
  exact ⟨h.wl, h.room, by omega, by omega, by omega, by omega, by omega, by omega⟩
/-- Acts under way: on still, or the power is gone. -/
def LaI (i : Nat) (D : Dk) (W : Wl) (segs : List (Nat × List (List Nat))) : Prop :=
  (∃ D0 M, D = D0.arm M ∧ PlIs D0 W segs i) ∨ (Brk W i ∧ (∀ p ∈ D.files, OwnNm [119] p.1) ∧ ∀ kf, ∃ rs more, Left (D.crashed kf) rs more)
theorem LaI.left {i : Nat} {D : Dk} {W : Wl} {segs : List (Nat × List (List Nat))} (h : LaI i D W segs) (hi : i ≤ 30) (kf : List Nat → Int × Int) : ∃ rs more, Left (D.crashed kf) rs more := by
  rcases h with ⟨D0, M, rfl, hP⟩ | ⟨-, -, h⟩
  · exact ⟨recsOf segs, [], hP.left_all (by omega) (E := D0.arm M) rfl rfl kf []⟩
  · exact h kf
theorem LaI.up {i : Nat} {D : Dk} {W : Wl} {segs : List (Nat × List (List Nat))} (h : LaI i D W segs) : LaI (i + 1) D W segs := by
  rcases h with ⟨D0, M, rfl, hP⟩ | ⟨h1, h2, h3⟩
  · exact .inl ⟨D0, M, rfl, hP.upL⟩
  · exact .inr ⟨h1.up, h2, h3⟩
theorem OffR.lasts {a : ActV} {E : Dk} {W : Wl} {segs : List (Nat × List (List Nat))} {D0 : Dk} {i : Nat} (h : OffR a E W segs) (hP : PlIs D0 W segs i) (hi : i ≤ 30) : LaI (i + 1) E { W with broken := true } segs := by
  have h4 := hP.num
  have h5 := hP.cnt
  have h6 := hP.size
  refine .inr ⟨⟨rfl, by simp only; omega, by simp only; omega, by simp only; omega⟩, h.2.1, fun kf => ?_⟩
  rcases h.2.2 with ⟨-, hL⟩ | ⟨-, u, t, -, -, hL⟩
  · exact ⟨_, _, hL kf⟩
  · exact ⟨_, _, hL kf⟩
theorem does_last (B gr : Nat) (a : ActV) (D : Dk) (W : Wl) (segs : List (Nat × List (List Nat))) (i : Nat) (w : World) (gv : Gv w) (hgB : 4 < B) (hS : LaI i D W segs) (hi : i ≤ 30) (h : RunAt w B gr D W segs) (hd : Byt a.data) (hdl : a.data.length ≤ 300) (hn : I64 a.n) (ha0 : 0 ≤ a.kind) (ha3 : a.kind ≤ 3) :
    Calls Tryz.prog 25 #[.pointer (some ⟨gr, 0, none⟩), a.v] w fun e w' => ∃ D' W' segs' x, e = .returned (.tuple #[.bool true, .bool x]) ∧ LaI (i + 1) D' W' segs' ∧ RunAt w' B gr D' W' segs' ∧ Bf B w w' := by
  rcases hS with ⟨D0, M, rfl, hP⟩ | ⟨hB, hO, hL⟩
  · refine (does_armL_any B gr M a D0 W segs i w gv hgB hP hi h hd hdl hn ha0 ha3).mono fun e w' h => ?_
    rcases h with ⟨D', W', segs', M', e1, hP', hR', hbf⟩ | ⟨E, e1, hOff, hR', hbf⟩
    · exact ⟨_, W', segs', false, e1, .inl ⟨D', M', rfl, hP'⟩, hR', hbf⟩
    · exact ⟨E, _, segs, true, e1, hOff.lasts hP hi, hR', hbf⟩
  · exact (does_dead_any B gr a D W segs i w gv hgB hB hi hO h hd hdl hn ha0 ha3).mono fun e w' ⟨W', x, e1, hB', hR', hbf⟩ => ⟨D, W', segs, x, e1, .inr ⟨hB', hO, hL⟩, hR', hbf⟩
theorem recsG_bnd {R : List (Nat × List Nat)} : ∀ {gs : List (Nat × (List Nat × List Nat))}, (∀ g ∈ gs, Nice g.2) → R = recsG gs → gs.length ≤ 40 → (∀ r ∈ R, Byt r.2) ∧ R.length ≤ 10000000 := by
  intro gs hN hR hl
  have key : ∀ l : List (Nat × (List Nat × List Nat)), (∀ g ∈ l, Nice g.2) → (∀ r ∈ recsG l, Byt r.2) ∧ (recsG l).length ≤ 131072 * l.length := by
    intro l
    induction l with
    | nil => exact fun _ => ⟨fun r hr => (by cases hr), Nat.le_refl _⟩
    | cons g l ih =>
      intro h
      obtain ⟨i1, i2⟩ := ih (fun x hx => h x (List.mem_cons_of_mem _ hx))
      obtain ⟨Q, k1, k2, k3, k4, -⟩ := (h g List.mem_cons_self).settle (n := 0)
      rw [recsG_cons]
      refine ⟨fun r hr => ?_, ?_⟩
      · rcases List.mem_append.1 hr with hr | hr
        · obtain ⟨x, hx, rfl⟩ := List.mem_map.1 hr
          rw [k1] at hx
          exact (k3 x hx).1
        · exact i1 r hr
      · rw [List.length_append, List.length_map, k1, List.length_cons]
        omega
  obtain ⟨h1, h2⟩ := key gs hN
  rw [hR]
  exact ⟨h1, by omega⟩
set_option maxHeartbeats 8000000 in
theorem walk_lasts (B : Nat) (A A2 : Option Addr) (n c n2 cc2 bits : Nat) (l : List ActV) (kp : List (Int × Int)) (ar which at_ : Int) (w : World) (hB : B = w.heap.size) (gv : Gv w) (hr : Reads w B 3 A n (acsV l)) (hl : ∀ a ∈ l, Byt a.data ∧ I64 a.n ∧ I64 a.kind) (hr2 : Reads w B 2 A2 n2 (kpsV kp)) (hI : ∀ q ∈ kp, I64 q.1 ∧ I64 q.2) (hbits : bits < 4294967296) :
    Calls Tryz.prog 9 #[.slice A n c, .int .i64 ar, .slice A2 n2 cc2, .int .i64 which, .int .i64 at_, .int .u32 (bits : Int)] w fun e w' => e = .returned (.bool true) ∧ Grow w w' := by
  have bf := Bf.refl B w
  have hgw := tab_lt gv.pow
  have hBle : B ≤ w.heap.size := Nat.le_of_eq hB
  rw [← hB] at hgw
  have done : ∀ w', Bf B w w' → Grow w w' := fun w' h => by
    have := h.to hBle
    rwa [hB] at this
  have hln : l.length = n := by have := hr.1; rw [acsV_len] at this; omega
  refine Calls.start 161 Tryz.func9 rfl rfl rfl ?_
  refine Cd.seq ?_
  refine Cd.region ?_
  refine Seq.val (Runs.assign rfl rfl) rfl rfl rfl ?_
  refine Seq.nil ?_
  refine Post.weak (F' := [(0, _), (1, _), (2, _), (3, _), (4, _), (5, _), (12, _)]) ⟨rfl, rfl, rfl, rfl, rfl, rfl, rfl, trivial⟩ ?_
  refine Post.then_ ?_
  refine Cd.seq ?_
  refine Cd.seq ?_
  refine Cd.region ?_
  refine Seq.val (Runs.move rfl rfl) rfl rfl rfl ?_
  refine Seq.call (Enters.func rfl rfl rfl (run_enter Tryz.func23 (by kernel_rfl) rfl)) rfl rfl rfl (great_any A n c l _ (by rw [← hB]; exact hr)) ?_
  rintro e w4 ⟨rfl, hb4⟩
  refine ⟨_, rfl, ?_⟩
  replace bf := bf.step hb4
  replace gv := gv.step hb4
  refine Seq.val (Runs.move rfl rfl) rfl rfl rfl ?_
  refine SeqC.start ?_
  refine SeqC.openC rfl rfl rfl rfl rfl rfl rfl (fun hcx => Enters.func rfl rfl rfl (run_enter Tryz.func11 (by kernel_rfl) rfl)) (fun hcx => awake_any _ gv) ?_
  intro w1 hw1
  replace bf := bf.step hw1
  replace gv := gv.step hw1
  refine SeqC.next rfl rfl rfl rfl rfl rfl rfl (fun hcx => Runs.not rfl rfl) ?_
  refine SeqC.or rfl rfl rfl rfl rfl rfl rfl ?_
  refine Seq.nil ?_
  refine Post.weak (F' := [(0, _), (1, _), (2, _), (3, _), (4, _), (5, _), (12, _), (28, _)]) ⟨rfl, rfl, rfl, rfl, rfl, rfl, rfl, rfl, trivial⟩ ?_
  refine Post.then_ ?_
  refine Cd.cond rfl (fun h => ?_) (fun h => ?_)
  · skip
    refine Cd.seq ?_
    refine Cd.region ?_
    refine Seq.call (Enters.func rfl rfl rfl (run_enter Tryz.func11 (by kernel_rfl) rfl)) rfl rfl rfl (awake_any _ gv) ?_
    rintro e w5 ⟨rfl, hb5⟩
    refine ⟨_, rfl, ?_⟩
    replace bf := bf.step hb5
    replace gv := gv.step hb5
    refine Seq.val (Runs.assign rfl rfl) rfl rfl rfl ?_
    refine Seq.nil ?_
    refine Post.weak (F' := [(0, _), (1, _), (2, _), (3, _), (4, _), (5, _), (12, _), (28, _)]) ⟨rfl, rfl, rfl, rfl, rfl, rfl, rfl, rfl, trivial⟩ ?_
    refine Post.then_ ?_
    refine Cd.ret ?_
    refine Post.then_ret ?_
    refine Post.end1 rfl rfl (.inl rfl) ?_
    exact ⟨rfl, done _ bf⟩
  have h : greatL l = false := by
    cases e : greatL l with
    | false => rfl
    | true => rw [e] at h; cases h
  unfold greatL at h
  rw [Bool.or_eq_false_iff, decide_eq_false_iff_not, List.any_eq_false] at h
  obtain ⟨hn20, hall⟩ := h
  refine Cd.skip ?_
  refine Post.then_ ?_
  refine Cd.seq ?_
  refine Cd.region ?_
  have hsz0 := Nat.le_trans hBle bf.size
  refine Seq.call (Enters.func rfl rfl rfl (run_enter Tryz.func24 (by kernel_rfl) rfl)) rfl rfl rfl (begin_r_any _ gv) ?_
  rintro e w5 ⟨gr, rfl, hR, hb5⟩
  refine ⟨_, rfl, ?_⟩
  replace hR := hR.mono hsz0
  replace bf := bf.step hb5
  replace gv := gv.step hb5
  have hP := PlIs.begin_
  refine Seq.val (Runs.assign rfl rfl) rfl rfl rfl ?_
  refine Seq.nil ?_
  refine Post.weak (F' := [(0, _), (1, _), (2, _), (3, _), (4, _), (5, _), (12, _), (13, _), (28, _)]) ⟨rfl, rfl, rfl, rfl, rfl, rfl, rfl, rfl, rfl, trivial⟩ ?_
  refine Post.then_ ?_
  refine Cd.seq ?_
  refine Cd.seq ?_
  refine Cd.region ?_
  refine Seq.val (Runs.move rfl rfl) rfl rfl rfl ?_
  refine Seq.val (Runs.eqlP rfl rfl rfl Tryz.underlying52) rfl rfl rfl ?_
  refine Seq.nil ?_
  refine Post.weak (F' := [(0, _), (1, _), (2, _), (3, _), (4, _), (5, _), (12, _), (13, _), (28, _), (32, _)]) ⟨rfl, rfl, rfl, rfl, rfl, rfl, rfl, rfl, rfl, rfl, trivial⟩ ?_
  refine Post.then_ ?_
  refine Cd.condF rfl rfl ?_
  obtain ⟨⟨gd, g6, v, k90, dk, k6, own, e6⟩, e90⟩ := hR
  obtain ⟨u, hu, hu64⟩ := uint_nat ar
  refine Cd.skip ?_
  refine Post.then_ ?_
  refine Cd.seq ?_
  refine Cd.region ?_
  refine Seq.val (Runs.move rfl rfl) rfl rfl rfl ?_
  refine Seq.val (Runs.nilCheck rfl rfl) rfl rfl rfl ?_
  refine Seq.val (Runs.fieldB 0 rfl rfl Tryz.underlying59 rfl (by kernel_rfl)) rfl rfl rfl ?_
  refine Seq.val (Runs.loadB rfl rfl Tryz.underlying26 rfl k90 rfl) rfl rfl rfl ?_
  refine Seq.val (Runs.move rfl rfl) rfl rfl rfl ?_
  refine Seq.val (Runs.convU (r := u) rfl rfl Tryz.underlying3 Tryz.underlying67 hu) rfl rfl rfl ?_
  refine Seq.val (Runs.remN rfl rfl rfl (by omega) (by omega)) rfl rfl rfl ?_
  obtain ⟨M, hM, hM60⟩ : ∃ M : Nat, (u : Int) % 60 = (M : Int) ∧ M < 60 := ⟨u % 60, by omega, by omega⟩
  rw [hM]
  refine Seq.val (Runs.convI (r := (M : Int)) rfl rfl Tryz.underlying67 Tryz.underlying3 (wrapI (by omega) (by omega))) rfl rfl rfl ?_
  refine Seq.call (Enters.func rfl rfl rfl (run_enter Tryz.func26 (by kernel_rfl) rfl)) rfl rfl rfl (arm_any B gd (Dk.new 1048576) (M : Int) _ dk (by omega) (by omega)) ?_
  clear dk
  rintro e w2 ⟨rfl, dk, fw2⟩
  refine ⟨_, rfl, ?_⟩
  replace bf := bf.df fw2
  replace gv := gv.df fw2
  replace k90 := k90.df fw2
  replace k6 := k6.df fw2
  replace own := own.df fw2
  replace dk : DkAt _ B gd ((Dk.new 1048576).arm M) := dk
  refine Seq.nil ?_
  refine Post.weak (F' := [(0, _), (1, _), (2, _), (3, _), (4, _), (5, _), (12, _), (13, _), (28, _), (32, _)]) ⟨rfl, rfl, rfl, rfl, rfl, rfl, rfl, rfl, rfl, rfl, trivial⟩ ?_
  refine Post.then_ ?_
  refine Cd.seq ?_
  refine Cd.seq ?_
  refine Cd.region ?_
  refine Seq.val (Runs.assign rfl rfl) rfl rfl rfl ?_
  refine Seq.nil ?_
  refine Post.weak (F' := [(0, _), (1, _), (2, _), (3, _), (4, _), (5, _), (12, _), (13, _), (14, _), (28, _), (32, _)]) ⟨rfl, rfl, rfl, rfl, rfl, rfl, rfl, rfl, rfl, rfl, rfl, trivial⟩ ?_
  refine Post.then_ ?_
  refine Cd.block ?_
  have hR : RunAt _ B gr ((Dk.new 1048576).arm M) ⟨0, 0, 0, false⟩ [] := ⟨⟨gd, g6, v, k90, dk, k6, own, e6⟩, e90⟩
  have hS : LaI 0 ((Dk.new 1048576).arm M) ⟨0, 0, 0, false⟩ [] := .inl ⟨_, M, rfl, hP⟩
  refine Cd.loop (σ := Nat × Dk × Wl × List (Nat × List (List Nat))) (fun q => [(0, .slice A n c), (2, .slice A2 n2 cc2), (3, .int .i64 which), (4, .int .i64 at_), (5, .int .u32 (bits : Int)), (13, .pointer (some ⟨gr, 0, none⟩)), (14, .int .i64 (q.1 : Int))]) (fun q wr => q.1 ≤ n ∧ LaI q.1 q.2.1 q.2.2.1 q.2.2.2 ∧ RunAt wr B gr q.2.1 q.2.2.1 q.2.2.2 ∧ Bf B w wr ∧ Gv wr) (fun q => n - q.1) (0, (Dk.new 1048576).arm M, ⟨0, 0, 0, false⟩, []) ⟨Nat.zero_le _, hS, hR, bf, gv⟩ ⟨rfl, rfl, rfl, rfl, rfl, rfl, rfl, trivial⟩ ?_
  clear hP hR hS bf gv k90 dk k6 own
  rintro ⟨i, D, W, segs⟩ wr ⟨hi, hS, hR, bf, gv⟩
  simp only at hi hS hR
  show Cd _ _ _ _ [(0, .slice A n c), (2, .slice A2 n2 cc2), (3, .int .i64 which), (4, .int .i64 at_), (5, .int .u32 (bits : Int)), (13, .pointer (some ⟨gr, 0, none⟩)), (14, .int .i64 (i : Int))] _
  refine Cd.seq ?_
  refine Cd.seq ?_
  refine Cd.region ?_
  refine Seq.val (Runs.move rfl rfl) rfl rfl rfl ?_
  refine Seq.val (Runs.move rfl rfl) rfl rfl rfl ?_
  refine Seq.val (Runs.len rfl rfl Tryz.underlying50) rfl rfl rfl ?_
  refine Seq.val (Runs.lss rfl rfl rfl) rfl rfl rfl ?_
  refine Seq.nil ?_
  refine Post.weak (F' := [(0, _), (2, _), (3, _), (4, _), (5, _), (13, _), (14, _), (45, _)]) ⟨rfl, rfl, rfl, rfl, rfl, rfl, rfl, rfl, trivial⟩ ?_
  refine Post.then_ ?_
  refine Cd.condD rfl (fun hc => ?_) (fun hc => ?_)
  · obtain ⟨a, ha⟩ : ∃ a, l[i]? = some a := ⟨_, List.getElem?_eq_getElem (by omega)⟩
    have ham := List.mem_of_getElem? ha
    obtain ⟨hd, hn, hak⟩ := hl a ham
    have hdl : a.data.length ≤ 300 := by simpa using hall a ham
    obtain ⟨ad, rfl, -, -, hcl⟩ := hr.act (bf.to hBle) ha
    refine Cd.skip ?_
    refine Post.then_ ?_
    refine Cd.seq ?_
    refine Cd.block ?_
    refine Cd.seq ?_
    refine Cd.region ?_
    refine Seq.val (Runs.move rfl rfl) rfl rfl rfl ?_
    refine Seq.val (Runs.move rfl rfl) rfl rfl rfl ?_
    refine Seq.val (Runs.indexN rfl rfl rfl Tryz.underlying50 (s := 3) (by kernel_rfl) (j := i) rfl (by omega)) rfl rfl rfl ?_
    refine Seq.val (Runs.fieldA 0 rfl rfl Tryz.underlying57 rfl (by kernel_rfl)) rfl rfl rfl ?_
    refine Seq.val (Runs.load1 rfl rfl Tryz.underlying3 rfl (hcl 0 _ rfl)) rfl rfl rfl ?_
    refine Seq.val (Runs.geq rfl rfl rfl) rfl rfl rfl ?_
    refine Seq.val (Runs.move rfl rfl) rfl rfl rfl ?_
    refine SeqC.start ?_
    refine SeqC.open rfl rfl rfl rfl rfl rfl rfl (fun hcx => Runs.move rfl rfl) ?_
    refine SeqC.next rfl rfl rfl rfl rfl rfl rfl (fun hcx => Runs.move rfl rfl) ?_
    refine SeqC.next rfl rfl rfl rfl rfl rfl rfl (fun hcx => Runs.indexN rfl rfl rfl Tryz.underlying50 (s := 3) (by kernel_rfl) (j := i) rfl (by omega)) ?_
    refine SeqC.next rfl rfl rfl rfl rfl rfl rfl (fun hcx => Runs.fieldA 0 rfl rfl Tryz.underlying57 rfl (by kernel_rfl)) ?_
    refine SeqC.next rfl rfl rfl rfl rfl rfl rfl (fun hcx => Runs.load1 rfl rfl Tryz.underlying3 rfl (hcl 0 _ rfl)) ?_
    refine SeqC.next rfl rfl rfl rfl rfl rfl rfl (fun hcx => Runs.leq rfl rfl rfl) ?_
    refine SeqC.and rfl rfl rfl rfl rfl rfl rfl ?_
    refine Seq.nil ?_
    refine Post.weak (F' := [(0, _), (2, _), (3, _), (4, _), (5, _), (13, _), (14, _), (45, _), (61, _)]) ⟨rfl, rfl, rfl, rfl, rfl, rfl, rfl, rfl, rfl, trivial⟩ ?_
    refine Post.then_ ?_
    refine Cd.cond rfl (fun h => ?_) (fun h => ?_)
    · have hkk : 0 ≤ a.kind ∧ a.kind ≤ 3 := by
        have h' : (decide (0 ≤ a.kind) && decide (a.kind ≤ 3)) = true := h
        rw [Bool.and_eq_true, decide_eq_true_eq, decide_eq_true_eq] at h'
        exact h'
      refine Cd.region ?_
      refine Seq.val (Runs.move rfl rfl) rfl rfl rfl ?_
      refine Seq.val (Runs.move rfl rfl) rfl rfl rfl ?_
      refine Seq.val (Runs.move rfl rfl) rfl rfl rfl ?_
      refine Seq.val (Runs.indexN rfl rfl rfl Tryz.underlying50 (s := 3) (by kernel_rfl) (j := i) rfl (by omega)) rfl rfl rfl ?_
      refine Seq.val (Runs.loadCs rfl rfl Tryz.underlying57 rfl (m := 3) (ps := a.cs) (by kernel_rfl) rfl hcl) rfl rfl rfl ?_
      refine Seq.call (Enters.func rfl rfl rfl (run_enter Tryz.func25 (by kernel_rfl) rfl)) rfl rfl rfl (does_last B gr a D W segs i _ gv hgw hS (by omega) hR hd hdl hn hkk.1 hkk.2) ?_
      rintro e w7 ⟨D', W', segs', x, rfl, hS', hR', hbf⟩
      refine ⟨_, rfl, ?_⟩
      replace bf := bf.bf hbf
      replace gv := gv.bf hbf
      clear hR
      have hR := hR'
      clear hR'
      refine Seq.nil ?_
      refine Post.weak (F' := [(0, _), (2, _), (3, _), (4, _), (5, _), (13, _), (14, _), (45, _), (61, _)]) ⟨rfl, rfl, rfl, rfl, rfl, rfl, rfl, rfl, rfl, trivial⟩ ?_
      refine Post.block_normal ?_
      refine Post.then_ ?_
      refine Cd.region ?_
      refine Seq.val (Runs.move rfl rfl) rfl rfl rfl ?_
      refine Seq.val (Runs.addI rfl rfl rfl (by omega) (by omega)) rfl rfl rfl ?_
      refine Seq.val (Runs.assign rfl rfl) rfl rfl rfl ?_
      refine Seq.nil ?_
      refine Post.weak (F' := [(0, _), (2, _), (3, _), (4, _), (5, _), (13, _), (14, _), (45, _), (61, _)]) ⟨rfl, rfl, rfl, rfl, rfl, rfl, rfl, rfl, rfl, trivial⟩ ?_
      exact Post.round (i + 1, D', W', segs') ⟨rfl, rfl, rfl, rfl, rfl, rfl, int_at (by omega), trivial⟩ ⟨by simp only; omega, hS', hR, bf, gv⟩ (by simp only; omega)
    · skip
      refine Cd.skip ?_
      refine Post.block_normal ?_
      refine Post.then_ ?_
      refine Cd.region ?_
      refine Seq.val (Runs.move rfl rfl) rfl rfl rfl ?_
      refine Seq.val (Runs.addI rfl rfl rfl (by omega) (by omega)) rfl rfl rfl ?_
      refine Seq.val (Runs.assign rfl rfl) rfl rfl rfl ?_
      refine Seq.nil ?_
      refine Post.weak (F' := [(0, _), (2, _), (3, _), (4, _), (5, _), (13, _), (14, _), (45, _), (61, _)]) ⟨rfl, rfl, rfl, rfl, rfl, rfl, rfl, rfl, rfl, trivial⟩ ?_
      exact Post.round (i + 1, D, W, segs) ⟨rfl, rfl, rfl, rfl, rfl, rfl, int_at (by omega), trivial⟩ ⟨by simp only; omega, hS.up, hR, bf, gv⟩ (by simp only; omega)
  · obtain ⟨⟨gd, g6, v, k90, dk, k6, own, e6⟩, e90⟩ := hR
    have hleft := hS.left (by omega)
    clear k6 own
    refine Cd.exit ?_
    refine Post.then_exit ?_
    refine Post.round_exit ?_
    refine Post.block_exit ?_
    refine Post.then_ ?_
    refine Cd.seq ?_
    refine Cd.region ?_
    refine Seq.val (Runs.move rfl rfl) rfl rfl rfl ?_
    refine Seq.val (Runs.nilCheck rfl rfl) rfl rfl rfl ?_
    refine Seq.val (Runs.fieldB 0 rfl rfl Tryz.underlying59 rfl (by kernel_rfl)) rfl rfl rfl ?_
    refine Seq.val (Runs.loadB rfl rfl Tryz.underlying26 rfl k90 rfl) rfl rfl rfl ?_
    refine Seq.val (Runs.move rfl rfl) rfl rfl rfl ?_
    refine Seq.call (Enters.func rfl rfl rfl (run_enter Tryz.func34 (by kernel_rfl) rfl)) rfl rfl rfl (crash_d_any B gd D A2 n2 cc2 kp _ dk (hr2.below (bf.to hBle)) hI) ?_
    clear dk
    rintro e w3 ⟨kf, rfl, dk, fw3⟩
    refine ⟨_, rfl, ?_⟩
    replace bf := bf.df fw3
    replace gv := gv.df fw3
    replace k90 := k90.df fw3
    obtain ⟨rs, more, hleft⟩ := hleft kf
    obtain ⟨D1, R, nx, gs, ho1, hG, -, hRe, hgl, hfl, hul, hrl, hoff1, hown1, ⟨D3, nx3, ho3⟩, -, hoffD, hownD, hNi⟩ := hleft.opens
    have hRb : (∀ r ∈ R, Byt r.2) ∧ R.length ≤ 10000000 := recsG_bnd hNi hRe hgl
    obtain ⟨hRb, hRl⟩ := hRb
    refine Seq.nil ?_
    refine Post.weak (F' := [(0, _), (2, _), (3, _), (4, _), (5, _), (13, _), (14, _), (45, _)]) ⟨rfl, rfl, rfl, rfl, rfl, rfl, rfl, rfl, trivial⟩ ?_
    refine Post.then_ ?_
    refine Cd.seq ?_
    refine Cd.region ?_
    refine Seq.val (Runs.move rfl rfl) rfl rfl rfl ?_
    refine Seq.val (Runs.nilCheck rfl rfl) rfl rfl rfl ?_
    refine Seq.val (Runs.fieldB 0 rfl rfl Tryz.underlying59 rfl (by kernel_rfl)) rfl rfl rfl ?_
    refine Seq.val (Runs.loadB rfl rfl Tryz.underlying26 rfl k90 rfl) rfl rfl rfl ?_
    refine Seq.call (Enters.func rfl rfl rfl (run_enter Tryz.func13 (by kernel_rfl) rfl)) rfl rfl rfl (open_any B gd (D.crashed kf) [119] _ gv hgw dk hoff1 right_w (byt_one (by omega)) hown1) ?_
    clear dk
    rintro e w4 ⟨v1, v2, rfl, hO, dk, fw4⟩
    refine ⟨_, rfl, ?_⟩
    replace bf := bf.df fw4
    replace gv := gv.df fw4
    replace k90 := k90.df fw4
    rw [ho1] at hO dk
    rw [ho1]
    rcases hO with ⟨h, -, -⟩ | ⟨-, g12, rfl, -, -, own16⟩
    · exact absurd rfl h
    replace own16 : Own _ _ 36 2 v2 R.length (recsV R) := own16
    replace dk : DkAt _ B gd D1 := dk
    obtain ⟨A16, c16, rfl, -⟩ := own16.reads
    refine Seq.val (Runs.move rfl rfl) rfl rfl rfl ?_
    refine Seq.val (Runs.extract rfl rfl rfl) rfl rfl rfl ?_
    refine Seq.val (Runs.extract rfl rfl rfl) rfl rfl rfl ?_
    refine Seq.val (Runs.extract rfl rfl rfl) rfl rfl rfl ?_
    refine Seq.val (Runs.assign rfl rfl) rfl rfl rfl ?_
    refine Seq.val (Runs.assign rfl rfl) rfl rfl rfl ?_
    refine Seq.val (Runs.assign rfl rfl) rfl rfl rfl ?_
    refine Seq.nil ?_
    refine Post.weak (F' := [(0, _), (2, _), (3, _), (4, _), (5, _), (13, _), (14, _), (15, _), (16, _), (17, _), (45, _)]) ⟨rfl, rfl, rfl, rfl, rfl, rfl, rfl, rfl, rfl, rfl, rfl, trivial⟩ ?_
    refine Post.then_ ?_
    refine Cd.seq ?_
    refine Cd.seq ?_
    refine Cd.region ?_
    refine Seq.val (Runs.move rfl rfl) rfl rfl rfl ?_
    refine Seq.val (Runs.eqlP rfl rfl rfl Tryz.underlying28) rfl rfl rfl ?_
    refine Seq.val (Runs.move rfl rfl) rfl rfl rfl ?_
    refine SeqC.start ?_
    refine SeqC.open rfl rfl rfl rfl rfl rfl rfl (fun hcx => Runs.move rfl rfl) ?_
    refine SeqC.next rfl rfl rfl rfl rfl rfl rfl (fun hcx => Runs.neqI rfl rfl rfl) ?_
    refine SeqC.or rfl rfl rfl rfl rfl rfl rfl ?_
    refine Seq.nil ?_
    refine Post.weak (F' := [(0, _), (2, _), (3, _), (4, _), (5, _), (13, _), (14, _), (15, _), (16, _), (17, _), (45, _), (88, _)]) ⟨rfl, rfl, rfl, rfl, rfl, rfl, rfl, rfl, rfl, rfl, rfl, rfl, trivial⟩ ?_
    refine Post.then_ ?_
    refine Cd.condF rfl rfl ?_
    refine Cd.skip ?_
    refine Post.then_ ?_
    refine Cd.seq ?_
    refine Cd.region ?_
    refine Seq.val (Runs.move rfl rfl) rfl rfl rfl ?_
    refine Seq.val (Runs.nilCheck rfl rfl) rfl rfl rfl ?_
    refine Seq.val (Runs.fieldB 0 rfl rfl Tryz.underlying59 rfl (by kernel_rfl)) rfl rfl rfl ?_
    refine Seq.val (Runs.loadB rfl rfl Tryz.underlying26 rfl k90 rfl) rfl rfl rfl ?_
    have hdl := dk.ok.most
    refine Seq.call (Enters.func rfl rfl rfl (run_enter Tryz.func31 (by kernel_rfl) rfl)) rfl rfl rfl (names_any B gd D1 _ dk) ?_
    rintro e w6 ⟨v6, rfl, ownN, hb6⟩
    refine ⟨_, rfl, ?_⟩
    obtain ⟨names, hnames⟩ : ∃ names, names = sortN (D1.files.map (·.1)) := ⟨_, rfl⟩
    rw [← hnames] at ownN
    have hperm : names.Perm (D1.files.map (·.1)) := by rw [hnames]; exact List.mergeSort_perm _ _
    have hnlen : names.length = D1.files.length := by rw [hperm.length_eq, List.length_map]
    replace bf := bf.step hb6
    replace gv := gv.step hb6
    replace k90 := k90.step hb6
    replace dk := dk.step hb6
    replace own16 := own16.step hb6
    obtain ⟨A6, c6, rfl, hrN⟩ := ownN.reads
    refine Seq.val (Runs.assign rfl rfl) rfl rfl rfl ?_
    refine Seq.nil ?_
    refine Post.weak (F' := [(0, _), (2, _), (3, _), (4, _), (5, _), (13, _), (14, _), (15, _), (16, _), (17, _), (18, _), (45, _), (88, _)]) ⟨rfl, rfl, rfl, rfl, rfl, rfl, rfl, rfl, rfl, rfl, rfl, rfl, rfl, trivial⟩ ?_
    refine Post.then_ ?_
    refine Cd.seq ?_
    refine Cd.seq ?_
    refine Cd.region ?_
    refine Seq.val (Runs.move rfl rfl) rfl rfl rfl ?_
    refine Seq.val (Runs.len rfl rfl Tryz.underlying22) rfl rfl rfl ?_
    refine Seq.val (Runs.eqlI rfl rfl rfl) rfl rfl rfl ?_
    refine Seq.nil ?_
    refine Post.weak (F' := [(0, _), (2, _), (3, _), (4, _), (5, _), (13, _), (14, _), (15, _), (16, _), (17, _), (18, _), (45, _), (88, _), (96, _)]) ⟨rfl, rfl, rfl, rfl, rfl, rfl, rfl, rfl, rfl, rfl, rfl, rfl, rfl, rfl, trivial⟩ ?_
    refine Post.then_ ?_
    refine Cd.cond rfl (fun h => ?_) (fun h => ?_)
    · have h : (D1.files.length : Int) = 0 := by simpa using h
      have hR0 : R = [] := by rw [hRe]; exact lasts_none hG (by omega)
      have hl0 : R.length = 0 := by rw [hR0]; rfl
      refine Cd.seq ?_
      refine Cd.region ?_
      refine Seq.val (Runs.move rfl rfl) rfl rfl rfl ?_
      refine Seq.val (Runs.len rfl rfl Tryz.underlying29) rfl rfl rfl ?_
      refine Seq.val (Runs.eqlI rfl rfl rfl) rfl rfl rfl ?_
      refine Seq.val (Runs.assign rfl rfl) rfl rfl rfl ?_
      refine Seq.nil ?_
      refine Post.weak (F' := [(0, _), (2, _), (3, _), (4, _), (5, _), (12, _), (13, _), (14, _), (15, _), (16, _), (17, _), (18, _), (45, _), (88, _), (96, _)]) ⟨rfl, rfl, rfl, rfl, rfl, rfl, rfl, rfl, rfl, rfl, rfl, rfl, rfl, rfl, rfl, trivial⟩ ?_
      refine Post.then_ ?_
      refine Cd.ret ?_
      refine Post.then_ret ?_
      refine Post.end1 rfl rfl (.inl rfl) ?_
      exact ⟨by rw [hl0]; rfl, done _ bf⟩
    have h : (D1.files.length : Int) ≠ 0 := by simpa using h
    obtain ⟨u, hu, hu64⟩ := uint_nat which
    obtain ⟨j, hj, hjl⟩ : ∃ j, j = u % D1.files.length ∧ j < D1.files.length := ⟨_, rfl, Nat.mod_lt _ (by omega)⟩
    obtain ⟨x, hx⟩ : ∃ x, names[j]? = some x := ⟨_, List.getElem?_eq_getElem (by omega)⟩
    have hxm : x ∈ D1.files.map (·.1) := hperm.mem_iff.1 (List.mem_of_getElem? hx)
    obtain ⟨f, hf⟩ := Option.isSome_iff_exists.1 (mem_names.1 hxm)
    have hfil := dk.ok.fil _ (get_mem hf)
    have hxs : ∀ c ∈ x, c < 256 := hfil.2.1
    have hsf : f.safe ≤ 1048576 := Nat.le_trans hfil.1.2.1 hfil.1.2.2
    obtain ⟨ad6, rfl, -, hcl6⟩ := hrN.2 (by omega)
    have hcx := hcl6 j (.string (strOf x)) (by rw [get_Ts, hx]; rfl)
    obtain ⟨z, hz, hz64⟩ := uint_nat at_
    have hfs := hG.safe x f hf
    refine Cd.skip ?_
    refine Post.then_ ?_
    refine Cd.seq ?_
    refine Cd.region ?_
    refine Seq.val (Runs.move rfl rfl) rfl rfl rfl ?_
    refine Seq.val (Runs.move rfl rfl) rfl rfl rfl ?_
    refine Seq.val (Runs.convU (r := u) rfl rfl Tryz.underlying3 Tryz.underlying67 hu) rfl rfl rfl ?_
    refine Seq.val (Runs.move rfl rfl) rfl rfl rfl ?_
    refine Seq.val (Runs.len rfl rfl Tryz.underlying22) rfl rfl rfl ?_
    refine Seq.val (Runs.convU (r := D1.files.length) rfl rfl Tryz.underlying3 Tryz.underlying67 (by omega)) rfl rfl rfl ?_
    refine Seq.val (Runs.remNU rfl rfl rfl (by omega)) rfl rfl rfl ?_
    rw [← hj]
    refine Seq.val (Runs.convI (r := (j : Int)) rfl rfl Tryz.underlying67 Tryz.underlying3 (wrapI (by omega) (by omega))) rfl rfl rfl ?_
    refine Seq.val (Runs.index1 rfl rfl rfl Tryz.underlying22 (by kernel_rfl) (j := j) rfl (by omega)) rfl rfl rfl ?_
    refine Seq.val (Runs.load1 rfl rfl Tryz.underlying9 rfl hcx) rfl rfl rfl ?_
    refine Seq.val (Runs.assign rfl rfl) rfl rfl rfl ?_
    refine Seq.nil ?_
    refine Post.weak (F' := [(0, _), (2, _), (3, _), (4, _), (5, _), (13, _), (14, _), (15, _), (16, _), (17, _), (18, _), (19, _), (45, _), (88, _), (96, _)]) ⟨rfl, rfl, rfl, rfl, rfl, rfl, rfl, rfl, rfl, rfl, rfl, rfl, rfl, rfl, rfl, trivial⟩ ?_
    refine Post.then_ ?_
    refine Cd.seq ?_
    refine Cd.seq ?_
    refine Cd.region ?_
    refine Seq.val (Runs.move rfl rfl) rfl rfl rfl ?_
    refine Seq.val (Runs.nilCheck rfl rfl) rfl rfl rfl ?_
    refine Seq.val (Runs.fieldB 0 rfl rfl Tryz.underlying59 rfl (by kernel_rfl)) rfl rfl rfl ?_
    refine Seq.val (Runs.loadB rfl rfl Tryz.underlying26 rfl k90 rfl) rfl rfl rfl ?_
    refine Seq.val (Runs.move rfl rfl) rfl rfl rfl ?_
    refine Seq.call (Enters.func rfl rfl rfl (run_enter Tryz.func32 (by kernel_rfl) rfl)) rfl rfl rfl (safe_any B gd D1 x f _ dk hxs hf) ?_
    rintro e w7 ⟨rfl, hb7⟩
    refine ⟨_, rfl, ?_⟩
    replace bf := bf.step hb7
    replace gv := gv.step hb7
    replace k90 := k90.step hb7
    replace dk := dk.step hb7
    replace own16 := own16.step hb7
    refine Seq.val (Runs.mulI rfl rfl rfl (by omega) (by omega)) rfl rfl rfl ?_
    refine Seq.val (Runs.assign rfl rfl) rfl rfl rfl ?_
    refine Seq.nil ?_
    refine Post.weak (F' := [(0, _), (2, _), (3, _), (4, _), (5, _), (13, _), (14, _), (15, _), (16, _), (17, _), (18, _), (19, _), (20, _), (45, _), (88, _), (96, _)]) ⟨rfl, rfl, rfl, rfl, rfl, rfl, rfl, rfl, rfl, rfl, rfl, rfl, rfl, rfl, rfl, rfl, trivial⟩ ?_
    refine Post.then_ ?_
    refine Cd.seq ?_
    refine Cd.region ?_
    refine Seq.val (Runs.move rfl rfl) rfl rfl rfl ?_
    refine Seq.val (Runs.gtr rfl rfl rfl) rfl rfl rfl ?_
    refine Seq.nil ?_
    refine Post.weak (F' := [(0, _), (2, _), (3, _), (4, _), (5, _), (13, _), (14, _), (15, _), (16, _), (17, _), (18, _), (19, _), (20, _), (45, _), (88, _), (96, _), (118, _)]) ⟨rfl, rfl, rfl, rfl, rfl, rfl, rfl, rfl, rfl, rfl, rfl, rfl, rfl, rfl, rfl, rfl, rfl, trivial⟩ ?_
    refine Post.then_ ?_
    refine Cd.cond rfl (fun h => ?_) (fun h => ?_)
    · have h' : (0 : Int) < 8 * (f.safe : Int) := by simpa using h
      have hmod : z % (8 * f.safe) < 8 * f.safe := Nat.mod_lt _ (by omega)
      obtain ⟨y, hy⟩ : ∃ y, y = z % (8 * f.safe) := ⟨_, rfl⟩
      obtain ⟨-, hrot⟩ := lasts hG hNi hgl hfl hul hrl hf hfil.1.1 y bits
      rw [← hRe] at hrot
      rw [← hy] at hmod
      obtain ⟨D', hD'⟩ : ∃ D', D' = D1.set x ⟨rotN f.safe y bits f.data, f.safe⟩ := ⟨_, rfl⟩
      have hoff' : D'.off = false := by rw [hD']; exact hoffD
      have hown' : ∀ p ∈ D'.files, OwnNm [119] p.1 := fun p hp => by
        have h1 : p.1 ∈ D'.files.map (·.1) := List.mem_map.2 ⟨p, hp, rfl⟩
        rw [hD', set_names] at h1
        obtain ⟨q, hq, e⟩ := List.mem_map.1 h1
        rw [← e]
        exact hownD q hq
      rw [← hD'] at hrot
      have hns : (8 : Int) * (f.safe : Int) = ((8 * f.safe : Nat) : Int) := by omega
      refine Cd.draw 12 (by kernel_rfl) [] (.inl rfl) rfl Grow Grow.refl (fun _ _ _ => Grow.trans) ?_
      intro w5 hw5 zw5
      replace bf := bf.step hw5
      replace gv := gv.step hw5
      replace k90 := k90.step hw5
      replace dk := dk.step hw5
      replace own16 := own16.step hw5
      have zlt := k90.lt
      refine Dr.val Grow.refl rfl (fun w hG => Runs.move rfl rfl) rfl ?_
      refine Dr.val Grow.refl rfl (fun w hG => Runs.nilCheck rfl rfl) rfl ?_
      refine Dr.val Grow.refl rfl (fun w hG => Runs.fieldB 0 rfl rfl Tryz.underlying59 rfl (by kernel_rfl)) rfl ?_
      refine Dr.val Grow.refl rfl (fun w hG => Runs.loadB rfl rfl Tryz.underlying26 rfl (k90.step hG) rfl) rfl ?_
      refine Dr.val Grow.refl rfl (fun w hG => Runs.move rfl rfl) rfl ?_
      refine Dr.val Grow.refl rfl (fun w hG => Runs.move rfl rfl) rfl ?_
      refine Dr.val Grow.refl rfl (fun w hG => Runs.convU (r := z) rfl rfl Tryz.underlying3 Tryz.underlying67 hz) rfl ?_
      refine Dr.val Grow.refl rfl (fun w hG => Runs.move rfl rfl) rfl ?_
      refine Dr.val Grow.refl rfl (fun w hG => Runs.convU (r := 8 * f.safe) rfl rfl Tryz.underlying3 Tryz.underlying67 (by omega)) rfl ?_
      refine Dr.val Grow.refl rfl (fun w hG => Runs.remNU rfl rfl rfl (by omega)) rfl ?_
      rw [← hy]
      refine Dr.val Grow.refl rfl (fun w hG => Runs.convI (r := (y : Int)) rfl rfl Tryz.underlying67 Tryz.underlying3 (wrapI (by omega) (by omega))) rfl ?_
      refine Dr.val Grow.refl rfl (fun w hG => Runs.move rfl rfl) rfl ?_
      refine Dr.nil ?_
      refine FinX.done (F' := [(0, _), (2, _), (3, _), (4, _), (5, _), (13, _), (14, _), (15, _), (16, _), (17, _), (18, _), (19, _), (20, _), (45, _), (88, _), (96, _), (118, _), (122, _), (123, _), (129, _), (130, _)]) rfl ⟨rfl, rfl, rfl, rfl, rfl, rfl, rfl, rfl, rfl, rfl, rfl, rfl, rfl, rfl, rfl, rfl, rfl, rfl, rfl, rfl, rfl, trivial⟩ ?_
      intro w6 hw6 fw6
      replace bf := bf.step hw6
      replace gv := gv.step hw6
      replace k90 := k90.step hw6
      replace dk := dk.step hw6
      replace own16 := own16.step hw6
      refine Seq.call (Enters.func rfl rfl rfl (run_enter Tryz.func33 (by kernel_rfl) rfl)) rfl rfl rfl (rot_any B gd D1 x f y bits _ dk hxs hf (by omega) hbits) ?_
      clear dk
      rintro e w7 ⟨tb, rfl, dk, fw7⟩
      refine ⟨_, rfl, ?_⟩
      replace bf := bf.df fw7
      replace gv := gv.df fw7
      replace k90 := k90.df fw7
      replace own16 := own16.df fw7
      rw [← hD'] at dk
      refine Seq.nil ?_
      refine Post.weak (F' := [(0, _), (2, _), (3, _), (4, _), (5, _), (13, _), (14, _), (15, _), (16, _), (17, _), (18, _), (19, _), (20, _), (45, _), (88, _), (96, _), (118, _)]) ⟨rfl, rfl, rfl, rfl, rfl, rfl, rfl, rfl, rfl, rfl, rfl, rfl, rfl, rfl, rfl, rfl, rfl, trivial⟩ ?_
      refine Post.then_ ?_
      refine Cd.seq ?_
      refine Cd.region ?_
      refine Seq.val (Runs.move rfl rfl) rfl rfl rfl ?_
      refine Seq.val (Runs.nilCheck rfl rfl) rfl rfl rfl ?_
      refine Seq.val (Runs.fieldB 0 rfl rfl Tryz.underlying59 rfl (by kernel_rfl)) rfl rfl rfl ?_
      refine Seq.val (Runs.loadB rfl rfl Tryz.underlying26 rfl k90 rfl) rfl rfl rfl ?_
      refine Seq.call (Enters.func rfl rfl rfl (run_enter Tryz.func13 (by kernel_rfl) rfl)) rfl rfl rfl (open_any B gd D' [119] _ gv hgw dk hoff' right_w (byt_one (by omega)) hown') ?_
      clear dk
      rintro e w8 ⟨v3, v4, rfl, hO, dk, fw8⟩
      refine ⟨_, rfl, ?_⟩
      replace bf := bf.df fw8
      replace gv := gv.df fw8
      replace k90 := k90.df fw8
      replace own16 := own16.df fw8
      rcases hrot with ⟨D2, nx2, hrot⟩ | ⟨⟨D2, hrot⟩, hb0⟩
      · rw [hrot] at hO dk
        rw [hrot]
        rcases hO with ⟨h, -, -⟩ | ⟨-, g14, rfl, -, -, own22⟩
        · exact absurd rfl h
        replace own22 : Own _ _ 36 2 v4 R.length (recsV R) := own22
        obtain ⟨A22, c22, rfl, -⟩ := own22.reads
        refine Seq.val (Runs.move rfl rfl) rfl rfl rfl ?_
        refine Seq.val (Runs.extract rfl rfl rfl) rfl rfl rfl ?_
        refine Seq.val (Runs.extract rfl rfl rfl) rfl rfl rfl ?_
        refine Seq.val (Runs.extract rfl rfl rfl) rfl rfl rfl ?_
        refine Seq.val (Runs.assign rfl rfl) rfl rfl rfl ?_
        refine Seq.val (Runs.assign rfl rfl) rfl rfl rfl ?_
        refine Seq.val (Runs.assign rfl rfl) rfl rfl rfl ?_
        refine Seq.nil ?_
        refine Post.weak (F' := [(0, _), (2, _), (3, _), (4, _), (5, _), (13, _), (14, _), (15, _), (16, _), (17, _), (18, _), (19, _), (20, _), (21, _), (22, _), (45, _), (88, _), (96, _), (118, _)]) ⟨rfl, rfl, rfl, rfl, rfl, rfl, rfl, rfl, rfl, rfl, rfl, rfl, rfl, rfl, rfl, rfl, rfl, rfl, rfl, trivial⟩ ?_
        refine Post.then_ ?_
        refine Cd.seq ?_
        refine Cd.seq ?_
        refine Cd.region ?_
        refine Seq.val (Runs.move rfl rfl) rfl rfl rfl ?_
        refine Seq.val (Runs.eqlI rfl rfl rfl) rfl rfl rfl ?_
        refine Seq.nil ?_
        refine Post.weak (F' := [(0, _), (2, _), (3, _), (4, _), (5, _), (13, _), (14, _), (15, _), (16, _), (17, _), (18, _), (19, _), (20, _), (21, _), (22, _), (45, _), (88, _), (96, _), (118, _), (142, _)]) ⟨rfl, rfl, rfl, rfl, rfl, rfl, rfl, rfl, rfl, rfl, rfl, rfl, rfl, rfl, rfl, rfl, rfl, rfl, rfl, rfl, trivial⟩ ?_
        refine Post.then_ ?_
        refine Cd.condF rfl rfl ?_
        refine Cd.skip ?_
        refine Post.then_ ?_
        refine Cd.seq ?_
        refine Cd.region ?_
        refine Seq.val (Runs.move rfl rfl) rfl rfl rfl ?_
        refine Seq.val (Runs.eqlI rfl rfl rfl) rfl rfl rfl ?_
        refine Seq.val (Runs.move rfl rfl) rfl rfl rfl ?_
        refine SeqC.start ?_
        refine SeqC.open rfl rfl rfl rfl rfl rfl rfl (fun hcx => Runs.move rfl rfl) ?_
        refine SeqC.next rfl rfl rfl rfl rfl rfl rfl (fun hcx => Runs.move rfl rfl) ?_
        refine SeqC.nextC rfl rfl rfl rfl rfl rfl rfl (fun hcx => Enters.func rfl rfl rfl (run_enter Tryz.func16 (by kernel_rfl) rfl)) (fun hcx => same_self A22 A16 _ c22 _ c16 _ R _ own22.rdsW own16.rdsW (Nat.le_refl _) hRb (by omega) (by omega)) ?_
        intro w9 hw9
        replace bf := bf.step hw9
        replace gv := gv.step hw9
        replace k90 := k90.step hw9
        replace dk := dk.step hw9
        replace own16 := own16.step hw9
        refine SeqC.and rfl rfl rfl rfl rfl rfl rfl ?_
        refine Seq.val (Runs.assign rfl rfl) rfl rfl rfl ?_
        refine Seq.nil ?_
        refine Post.weak (F' := [(0, _), (2, _), (3, _), (4, _), (5, _), (12, _), (13, _), (14, _), (15, _), (16, _), (17, _), (18, _), (19, _), (20, _), (21, _), (22, _), (45, _), (88, _), (96, _), (118, _), (142, _)]) ⟨rfl, rfl, rfl, rfl, rfl, rfl, rfl, rfl, rfl, rfl, rfl, rfl, rfl, rfl, rfl, rfl, rfl, rfl, rfl, rfl, rfl, trivial⟩ ?_
        refine Post.then_ ?_
        refine Cd.ret ?_
        refine Post.end1 rfl rfl (.inl rfl) ?_
        exact ⟨by simp, done _ bf⟩
      · rw [hrot] at hO dk
        rw [hrot]
        rcases hO with ⟨-, rfl, rfl⟩ | ⟨h, -⟩
        · skip
          refine Seq.val (Runs.move rfl rfl) rfl rfl rfl ?_
          refine Seq.val (Runs.extract rfl rfl rfl) rfl rfl rfl ?_
          refine Seq.val (Runs.extract rfl rfl rfl) rfl rfl rfl ?_
          refine Seq.val (Runs.extract rfl rfl rfl) rfl rfl rfl ?_
          refine Seq.val (Runs.assign rfl rfl) rfl rfl rfl ?_
          refine Seq.val (Runs.assign rfl rfl) rfl rfl rfl ?_
          refine Seq.val (Runs.assign rfl rfl) rfl rfl rfl ?_
          refine Seq.nil ?_
          refine Post.weak (F' := [(0, _), (2, _), (3, _), (4, _), (5, _), (13, _), (14, _), (15, _), (16, _), (17, _), (18, _), (19, _), (20, _), (21, _), (22, _), (45, _), (88, _), (96, _), (118, _)]) ⟨rfl, rfl, rfl, rfl, rfl, rfl, rfl, rfl, rfl, rfl, rfl, rfl, rfl, rfl, rfl, rfl, rfl, rfl, rfl, trivial⟩ ?_
          refine Post.then_ ?_
          refine Cd.seq ?_
          refine Cd.seq ?_
          refine Cd.region ?_
          refine Seq.val (Runs.move rfl rfl) rfl rfl rfl ?_
          refine Seq.val (Runs.eqlI rfl rfl rfl) rfl rfl rfl ?_
          refine Seq.nil ?_
          refine Post.weak (F' := [(0, _), (2, _), (3, _), (4, _), (5, _), (13, _), (14, _), (15, _), (16, _), (17, _), (18, _), (19, _), (20, _), (21, _), (22, _), (45, _), (88, _), (96, _), (118, _), (142, _)]) ⟨rfl, rfl, rfl, rfl, rfl, rfl, rfl, rfl, rfl, rfl, rfl, rfl, rfl, rfl, rfl, rfl, rfl, rfl, rfl, rfl, trivial⟩ ?_
          refine Post.then_ ?_
          refine Cd.condT rfl rfl ?_
          refine Cd.seq ?_
          refine Cd.region ?_
          refine Seq.val (Runs.move rfl rfl) rfl rfl rfl ?_
          refine Seq.val (Runs.eqlP rfl rfl rfl Tryz.underlying28) rfl rfl rfl ?_
          refine Seq.val (Runs.move rfl rfl) rfl rfl rfl ?_
          refine SeqC.start ?_
          refine SeqC.open rfl rfl rfl rfl rfl rfl rfl (fun hcx => Runs.move rfl rfl) ?_
          refine SeqC.next rfl rfl rfl rfl rfl rfl rfl (fun hcx => Runs.len rfl rfl Tryz.underlying29) ?_
          refine SeqC.next rfl rfl rfl rfl rfl rfl rfl (fun hcx => Runs.eqlI rfl rfl rfl) ?_
          refine SeqC.and rfl rfl rfl rfl rfl rfl rfl ?_
          refine Seq.val (Runs.move rfl rfl) rfl rfl rfl ?_
          refine SeqC.start ?_
          refine SeqC.open rfl rfl rfl rfl rfl rfl rfl (fun hcx => Runs.move rfl rfl) ?_
          refine SeqC.next rfl rfl rfl rfl rfl rfl rfl (fun hcx => Runs.neqI rfl rfl rfl) ?_
          refine SeqC.and rfl rfl rfl rfl rfl rfl rfl ?_
          refine Seq.val (Runs.assign rfl rfl) rfl rfl rfl ?_
          refine Seq.nil ?_
          refine Post.weak (F' := [(0, _), (2, _), (3, _), (4, _), (5, _), (12, _), (13, _), (14, _), (15, _), (16, _), (17, _), (18, _), (19, _), (20, _), (21, _), (22, _), (45, _), (88, _), (96, _), (118, _), (142, _)]) ⟨rfl, rfl, rfl, rfl, rfl, rfl, rfl, rfl, rfl, rfl, rfl, rfl, rfl, rfl, rfl, rfl, rfl, rfl, rfl, rfl, rfl, trivial⟩ ?_
          refine Post.then_ ?_
          refine Cd.ret ?_
          refine Post.then_ret ?_
          refine Post.end1 rfl rfl (.inl rfl) ?_
          have hb1 : (bits : Int) ≠ 0 := by omega
          exact ⟨by simp; omega, done _ bf⟩
        · cases h
    · have h' : ¬ ((0 : Int) < 8 * (f.safe : Int)) := by simpa using h
      have hrot : (∃ D2 nx, openW D1 [119] = (D2, 0, R, nx)) ∨ ((∃ D2, openW D1 [119] = (D2, 9, [], 0)) ∧ bits ≠ 0) := .inl ⟨D3, nx3, ho3⟩
      obtain ⟨D', hD'⟩ : ∃ D', D' = D1 := ⟨_, rfl⟩
      rw [← hD'] at hrot dk hoffD hownD
      have hoff' := hoffD
      have hown' := hownD
      refine Cd.skip ?_
      refine Post.then_ ?_
      refine Cd.seq ?_
      refine Cd.region ?_
      refine Seq.val (Runs.move rfl rfl) rfl rfl rfl ?_
      refine Seq.val (Runs.nilCheck rfl rfl) rfl rfl rfl ?_
      refine Seq.val (Runs.fieldB 0 rfl rfl Tryz.underlying59 rfl (by kernel_rfl)) rfl rfl rfl ?_
      refine Seq.val (Runs.loadB rfl rfl Tryz.underlying26 rfl k90 rfl) rfl rfl rfl ?_
      refine Seq.call (Enters.func rfl rfl rfl (run_enter Tryz.func13 (by kernel_rfl) rfl)) rfl rfl rfl (open_any B gd D' [119] _ gv hgw dk hoff' right_w (byt_one (by omega)) hown') ?_
      clear dk
      rintro e w5 ⟨v3, v4, rfl, hO, dk, fw5⟩
      refine ⟨_, rfl, ?_⟩
      replace bf := bf.df fw5
      replace gv := gv.df fw5
      replace k90 := k90.df fw5
      replace own16 := own16.df fw5
      rcases hrot with ⟨D2, nx2, hrot⟩ | ⟨⟨D2, hrot⟩, hb0⟩
      · rw [hrot] at hO dk
        rw [hrot]
        rcases hO with ⟨h, -, -⟩ | ⟨-, g14, rfl, -, -, own22⟩
        · exact absurd rfl h
        replace own22 : Own _ _ 36 2 v4 R.length (recsV R) := own22
        obtain ⟨A22, c22, rfl, -⟩ := own22.reads
        refine Seq.val (Runs.move rfl rfl) rfl rfl rfl ?_
        refine Seq.val (Runs.extract rfl rfl rfl) rfl rfl rfl ?_
        refine Seq.val (Runs.extract rfl rfl rfl) rfl rfl rfl ?_
        refine Seq.val (Runs.extract rfl rfl rfl) rfl rfl rfl ?_
        refine Seq.val (Runs.assign rfl rfl) rfl rfl rfl ?_
        refine Seq.val (Runs.assign rfl rfl) rfl rfl rfl ?_
        refine Seq.val (Runs.assign rfl rfl) rfl rfl rfl ?_
        refine Seq.nil ?_
        refine Post.weak (F' := [(0, _), (2, _), (3, _), (4, _), (5, _), (13, _), (14, _), (15, _), (16, _), (17, _), (18, _), (19, _), (20, _), (21, _), (22, _), (45, _), (88, _), (96, _), (118, _)]) ⟨rfl, rfl, rfl, rfl, rfl, rfl, rfl, rfl, rfl, rfl, rfl, rfl, rfl, rfl, rfl, rfl, rfl, rfl, rfl, trivial⟩ ?_
        refine Post.then_ ?_
        refine Cd.seq ?_
        refine Cd.seq ?_
        refine Cd.region ?_
        refine Seq.val (Runs.move rfl rfl) rfl rfl rfl ?_
        refine Seq.val (Runs.eqlI rfl rfl rfl) rfl rfl rfl ?_
        refine Seq.nil ?_
        refine Post.weak (F' := [(0, _), (2, _), (3, _), (4, _), (5, _), (13, _), (14, _), (15, _), (16, _), (17, _), (18, _), (19, _), (20, _), (21, _), (22, _), (45, _), (88, _), (96, _), (118, _), (142, _)]) ⟨rfl, rfl, rfl, rfl, rfl, rfl, rfl, rfl, rfl, rfl, rfl, rfl, rfl, rfl, rfl, rfl, rfl, rfl, rfl, rfl, trivial⟩ ?_
        refine Post.then_ ?_
        refine Cd.condF rfl rfl ?_
        refine Cd.skip ?_
        refine Post.then_ ?_
        refine Cd.seq ?_
        refine Cd.region ?_
        refine Seq.val (Runs.move rfl rfl) rfl rfl rfl ?_
        refine Seq.val (Runs.eqlI rfl rfl rfl) rfl rfl rfl ?_
        refine Seq.val (Runs.move rfl rfl) rfl rfl rfl ?_
        refine SeqC.start ?_
        refine SeqC.open rfl rfl rfl rfl rfl rfl rfl (fun hcx => Runs.move rfl rfl) ?_
        refine SeqC.next rfl rfl rfl rfl rfl rfl rfl (fun hcx => Runs.move rfl rfl) ?_
        refine SeqC.nextC rfl rfl rfl rfl rfl rfl rfl (fun hcx => Enters.func rfl rfl rfl (run_enter Tryz.func16 (by kernel_rfl) rfl)) (fun hcx => same_self A22 A16 _ c22 _ c16 _ R _ own22.rdsW own16.rdsW (Nat.le_refl _) hRb (by omega) (by omega)) ?_
        intro w6 hw6
        replace bf := bf.step hw6
        replace gv := gv.step hw6
        replace k90 := k90.step hw6
        replace dk := dk.step hw6
        replace own16 := own16.step hw6
        refine SeqC.and rfl rfl rfl rfl rfl rfl rfl ?_
        refine Seq.val (Runs.assign rfl rfl) rfl rfl rfl ?_
        refine Seq.nil ?_
        refine Post.weak (F' := [(0, _), (2, _), (3, _), (4, _), (5, _), (12, _), (13, _), (14, _), (15, _), (16, _), (17, _), (18, _), (19, _), (20, _), (21, _), (22, _), (45, _), (88, _), (96, _), (118, _), (142, _)]) ⟨rfl, rfl, rfl, rfl, rfl, rfl, rfl, rfl, rfl, rfl, rfl, rfl, rfl, rfl, rfl, rfl, rfl, rfl, rfl, rfl, rfl, trivial⟩ ?_
        refine Post.then_ ?_
        refine Cd.ret ?_
        refine Post.end1 rfl rfl (.inl rfl) ?_
        exact ⟨by simp, done _ bf⟩
      · rw [hrot] at hO dk
        rw [hrot]
        rcases hO with ⟨-, rfl, rfl⟩ | ⟨h, -⟩
        · skip
          refine Seq.val (Runs.move rfl rfl) rfl rfl rfl ?_
          refine Seq.val (Runs.extract rfl rfl rfl) rfl rfl rfl ?_
          refine Seq.val (Runs.extract rfl rfl rfl) rfl rfl rfl ?_
          refine Seq.val (Runs.extract rfl rfl rfl) rfl rfl rfl ?_
          refine Seq.val (Runs.assign rfl rfl) rfl rfl rfl ?_
          refine Seq.val (Runs.assign rfl rfl) rfl rfl rfl ?_
          refine Seq.val (Runs.assign rfl rfl) rfl rfl rfl ?_
          refine Seq.nil ?_
          refine Post.weak (F' := [(0, _), (2, _), (3, _), (4, _), (5, _), (13, _), (14, _), (15, _), (16, _), (17, _), (18, _), (19, _), (20, _), (21, _), (22, _), (45, _), (88, _), (96, _), (118, _)]) ⟨rfl, rfl, rfl, rfl, rfl, rfl, rfl, rfl, rfl, rfl, rfl, rfl, rfl, rfl, rfl, rfl, rfl, rfl, rfl, trivial⟩ ?_
          refine Post.then_ ?_
          refine Cd.seq ?_
          refine Cd.seq ?_
          refine Cd.region ?_
          refine Seq.val (Runs.move rfl rfl) rfl rfl rfl ?_
          refine Seq.val (Runs.eqlI rfl rfl rfl) rfl rfl rfl ?_
          refine Seq.nil ?_
          refine Post.weak (F' := [(0, _), (2, _), (3, _), (4, _), (5, _), (13, _), (14, _), (15, _), (16, _), (17, _), (18, _), (19, _), (20, _), (21, _), (22, _), (45, _), (88, _), (96, _), (118, _), (142, _)]) ⟨rfl, rfl, rfl, rfl, rfl, rfl, rfl, rfl, rfl, rfl, rfl, rfl, rfl, rfl, rfl, rfl, rfl, rfl, rfl, rfl, trivial⟩ ?_
          refine Post.then_ ?_
          refine Cd.condT rfl rfl ?_
          refine Cd.seq ?_
          refine Cd.region ?_
          refine Seq.val (Runs.move rfl rfl) rfl rfl rfl ?_
          refine Seq.val (Runs.eqlP rfl rfl rfl Tryz.underlying28) rfl rfl rfl ?_
          refine Seq.val (Runs.move rfl rfl) rfl rfl rfl ?_
          refine SeqC.start ?_
          refine SeqC.open rfl rfl rfl rfl rfl rfl rfl (fun hcx => Runs.move rfl rfl) ?_
          refine SeqC.next rfl rfl rfl rfl rfl rfl rfl (fun hcx => Runs.len rfl rfl Tryz.underlying29) ?_
          refine SeqC.next rfl rfl rfl rfl rfl rfl rfl (fun hcx => Runs.eqlI rfl rfl rfl) ?_
          refine SeqC.and rfl rfl rfl rfl rfl rfl rfl ?_
          refine Seq.val (Runs.move rfl rfl) rfl rfl rfl ?_
          refine SeqC.start ?_
          refine SeqC.open rfl rfl rfl rfl rfl rfl rfl (fun hcx => Runs.move rfl rfl) ?_
          refine SeqC.next rfl rfl rfl rfl rfl rfl rfl (fun hcx => Runs.neqI rfl rfl rfl) ?_
          refine SeqC.and rfl rfl rfl rfl rfl rfl rfl ?_
          refine Seq.val (Runs.assign rfl rfl) rfl rfl rfl ?_
          refine Seq.nil ?_
          refine Post.weak (F' := [(0, _), (2, _), (3, _), (4, _), (5, _), (12, _), (13, _), (14, _), (15, _), (16, _), (17, _), (18, _), (19, _), (20, _), (21, _), (22, _), (45, _), (88, _), (96, _), (118, _), (142, _)]) ⟨rfl, rfl, rfl, rfl, rfl, rfl, rfl, rfl, rfl, rfl, rfl, rfl, rfl, rfl, rfl, rfl, rfl, rfl, rfl, rfl, rfl, trivial⟩ ?_
          refine Post.then_ ?_
          refine Cd.ret ?_
          refine Post.then_ret ?_
          refine Post.end1 rfl rfl (.inl rfl) ?_
          have hb1 : (bits : Int) ≠ 0 := by omega
          exact ⟨by simp; omega, done _ bf⟩
        · cases h
end Go.Proofs.YtnlepoplncjliaaGreatDoor

namespace Go.Proofs.YtnlepoplncjliaaGreatDoor
open Go.ChangeShapes Go.WideShapes Go.Deep Go.RowKit

set_option maxRecDepth 100000 in
theorem open_int {W : World} {base t : Nat} {v : Value} {k : IntKind} (hu : Tryz.prog.underlying t = some (.int k)) (hv : Value.okWide Tryz.prog W .any base t v) : ∃ n, v = .int k n ∧ k.has n := by
  obtain ⟨n, rfl⟩ := okWide_int hu hv
  simp only [Value.okWide, hu, Cell.okWide] at hv
  exact ⟨n, rfl, by simpa [Cell.ok, hu] using hv⟩
set_option maxRecDepth 100000 in
theorem open_i64 {W : World} {base t : Nat} {v : Value} (hu : Tryz.prog.underlying t = some (.int .i64)) (hv : Value.okWide Tryz.prog W .any base t v) : ∃ n, v = .int .i64 n ∧ I64 n := by
  obtain ⟨n, rfl, h⟩ := open_int hu hv
  exact ⟨n, rfl, h.1, h.2⟩
end Go.Proofs.YtnlepoplncjliaaGreatDoor

namespace Go.Proofs.YtnlepoplncjliaaGreatDoor
open Go.ChangeShapes Go.WideShapes Go.ChangeAt Go.Deep Go.RowKit

theorem laid_tail {P : Program} {W : World} {x : String × DataW Unit} {rest : List (String × DataW Unit)} (h : laidMet P (x :: rest) W) : laidMet P rest W := by
  obtain ⟨ps, ⟨g, t, cs, fuel, p, q, h1, h2, h3, h4, h5, rfl⟩, hn, hi⟩ := h
  exact ⟨q, h5, (List.nodup_append.1 hn).2.1, fun b off hm => hi b off (List.mem_append_right _ hm)⟩
def laidL : List (String × DataW Unit) := Rows.walFullRow.laid
theorem gv_of_laid {W : World} (h : laidMetH Tryz.prog laidL W) (hs : W.ShapedOpen Tryz.prog) : Gv W := by
  rw [MakeChecks.laidMetH_plain _ _ _ (by kernel_rfl)] at h
  have h3 := laid_tail (laid_tail (show laidMet Tryz.prog (_ :: _ :: _) W from h))
  have tn : Lib.TabIs Tryz.prog W "debenture/crc.nibbles" .u32 (nibs.map Int.ofNat) := Lib.tabIs_of_head (rest := _) (g := 3) (by kernel_rfl) (by kernel_rfl) Tryz.underlying195 Tryz.underlying65 (by kernel_rfl) (by kernel_rfl) h3
  have tp : Lib.TabIs Tryz.prog W "internal/strconv.uint64pow10" .u64 Lib.pow10Tab := Lib.tabIs_of_head (rest := _) (g := 4) (by kernel_rfl) (by kernel_rfl) Tryz.underlying214 Tryz.underlying97 (by kernel_rfl) (by kernel_rfl) (laid_tail h3)
  refine ⟨⟨fun i hi => ?_⟩, tp, cell_of_shapedOpen_int (t := 3) (zero := #[.int .i64 0]) hs (of_decide_eq_true (by kernel_rfl)) (by kernel_rfl) rfl (by kernel_rfl) (by kernel_rfl) Tryz.underlying3⟩
  rw [tn.cell (g := 3) (by kernel_rfl) i (by rw [List.length_map]; exact hi)]
  congr 2
  have : ∀ i, i < 16 → (nibs.map Int.ofNat).getD i 0 = ((nibs.getD i 0 : Nat) : Int) := by decide
  exact this i hi
theorem choose_at {α : Type} (n : Nat) (p : Nat → α → Prop) (h : ∀ i, i < n → ∃ f, p i f) : ∃ l : List α, l.length = n ∧ ∀ i f, l[i]? = some f → p i f := by
  induction n with
  | zero => exact ⟨[], rfl, fun i f hf => by simp at hf⟩
  | succ n ih =>
    obtain ⟨l, hl, hp⟩ := ih fun i hi => h i (by omega)
    obtain ⟨x, hx⟩ := h n (by omega)
    refine ⟨l ++ [x], by simp [hl], fun i f hf => ?_⟩
    rcases Nat.lt_or_ge i l.length with h1 | h1
    · rw [List.getElem?_append_left h1] at hf
      exact hp i f hf
    · rw [List.getElem?_append_right h1] at hf
      have h2 : i - l.length = 0 := by
        rcases Nat.eq_zero_or_pos (i - l.length) with h2 | h2
        · exact h2
        · rw [List.getElem?_eq_none (by simp; omega)] at hf; cases hf
      rw [h2] at hf
      injection hf with hf
      subst hf
      have : i = n := by omega
      subst this
      exact hx
theorem strOf_of (s : ByteArray) : ∃ l : List Nat, s = strOf l ∧ Byt l ∧ l.length = s.size := by
  refine ⟨s.data.toList.map UInt8.toNat, ?_, fun c hc => ?_, by rw [List.length_map]; rfl⟩
  · have : (s.data.toList.map UInt8.toNat).map UInt8.ofNat = s.data.toList := by
      rw [List.map_map]
      conv => rhs; rw [← List.map_id s.data.toList]
      exact List.map_congr_left fun b _ => by simp
    unfold strOf
    rw [this]
  · obtain ⟨b, -, rfl⟩ := List.mem_map.1 hc
    exact b.toNat_lt
/-- The wrap for rows that list variables, with what the world's shape says handed on. -/
theorem lift_laid {H : Type} {enc : TypeId × Value → H} {a : Assume} {C : Checked} {os : Os} {f : FuncId} {fn : Func} {s : ChangeSpec} {X : World → Array Value → Prop} {apart fresh handsOn again : Bool}
    (hX : ∀ (w w' : World) (args : Array Value), w.heap = w'.heap → X w args → X w' args) (own : ownKnob C.prog.godebug = none) (started : os.Started) (hi : C.prog.inits.idxOf? f = none) (hfn : C.prog.funcs[f]? = some fn)
    (wit : ∃ (w : World) (tape : Tape) (i : Input), w.os = os ∧ (w.forCall tape i).Shaped C.prog ∧ i.vars = [] ∧ Input.okWide C.prog (w.forCall tape i) .any w.heap.size f i ∧
      ((s.pre enc C.prog fn [] apart (w.forCall tape i).memory i.args ∧ X (w.forCall tape i).memory i.args) ∧ sizedMet enc C.prog fn (OpenSpec.ofChange s) apart (w.forCall tape i).memory i.args) ∧ a.holds C.prog (lone (Frame.enter C.prog f i.args .normal) [] (w.forCall tape i)))
    (walk : ∀ (W : World) (base : Nat) (args : Array Value) (ds gs : List (DataW H)) (before : List MemPlace), (∀ (j : Nat) t v, fn.params[j]? = some t → args[j]? = some v → Value.okWide C.prog W .any base t v) →
      DataW.Whole enc C.prog fn.params.toList s.vars apart W args.toList ds gs before → X W args → W.ShapedOpen C.prog →
      Calls C.prog f args W fun e W' => ∃ v, e = .returned v ∧ s.post enc C.prog fn apart fresh handsOn again W args v W') :
    ReturnsInHanded a C os f .any (fun w args => (s.pre enc C.prog fn [] apart w args ∧ X w args) ∧ sizedMet enc C.prog fn (OpenSpec.ofChange s) apart w args) (s.post enc C.prog fn apart fresh handsOn again) := by
  refine returnsInHanded_of_calls own started hi wit fun w tape i _ hsh _ hok hp _ => ?_
  obtain ⟨⟨⟨ds, gs, before, hw, -⟩, hx⟩, -⟩ := hp
  obtain ⟨_, _, _, fn', hfn', _, _, _, _, hval⟩ := hok
  obtain rfl : fn' = fn := Option.some.inj (hfn'.symm.trans hfn)
  refine (walk _ _ _ ds gs before hval (DataW.Whole.of_heap (by rfl) hw) (hX _ _ _ (by rfl) hx) hsh).mono fun e W' he => ?_
  obtain ⟨v, rfl, hp⟩ := he
  exact ChangeSpec.post_blind hp
theorem own : ownKnob Tryz.prog.godebug = none := by kernel_rfl
theorem laidOut : laidOutB Tryz.prog = true := by kernel_rfl
theorem door_met (os : Os) (args : Array Value) : laidMetH Tryz.prog laidL ((World.doorLaid Tryz.prog 67 os).forCall (fun _ _ => 0) ⟨#[], args, []⟩).memory :=
  laidMetH_of_parts3 (fuel := 8) (laidMet_of_run' 8 (by kernel_rfl) (by kernel_rfl)) (by kernel_rfl) (by kernel_rfl)
end Go.Proofs.YtnlepoplncjliaaGreatDoor

namespace Go.Proofs.YtnlepoplncjliaaGreatDoor
open Go.ChangeShapes Go.WideShapes Go.Deep Go.RowKit

section
variable {H : Type} {enc : TypeId × Value → H} {P : Program} {w : World} {base : Nat} {spare : Nat → Bool} {held : Bool}
theorem open_slice_fields {t e : TypeId} {fs : Array Field} {fuel : Nat} {cs : List Value} {x : DataW H × List MemPlace} (ht : P.underlying t = some (.slice e)) (he : P.underlying e = some (.struct fs))
    (hone : oneCellFields P fs = true) (hC : P.cellsOf e = fs.size) (h : DataW.trod enc P w base spare held fuel t cs = some x) :
    (cs = [.slice none 0 0] ∧ x = (.nil, [])) ∨
    ∃ (a : Addr) (len cap m : Nat) (D : Nat → DataW H) (Pl : Nat → List MemPlace), cs = [.slice (some a) len cap] ∧ base ≤ a.block ∧ len ≤ cap ∧ cap ≤ maxLen ∧ m = (if spare a.block then cap else len) ∧
      x = (.slice ((List.range len).map D) ((List.range (m - len)).map fun j => D (len + j)), MemPlace.row a (m * fs.size) ++ (List.range m).flatMap Pl) ∧
      ∀ i, i < m → ∃ (ys : List (DataW H × List MemPlace)) (n : Nat), D i = .agg (ys.map (·.1)) ∧ Pl i = ys.flatMap (·.2) ∧ ys.length = fs.size ∧
        ∀ (j : Nat) (f : Field), fs[j]? = some f → ∃ (v : Value) (y : DataW H × List MemPlace), w.cell? (a.add (i * fs.size + j)) = some v ∧ ys[j]? = some y ∧ DataW.trod enc P w base spare held n f.type [v] = some y := by
  rcases open_slice ht h with h0 | ⟨a, len, cap, m, n, D, Pl, hcs, hb, hl, hm, hmm, hx, hi⟩
  · exact .inl h0
  · refine .inr ⟨a, len, cap, m, D, Pl, hcs, hb, hl, hm, hmm, by rw [hC] at hx; exact hx, fun i him => ?_⟩
    obtain ⟨cs', hc, ht'⟩ := hi i him
    rw [hC] at hc
    obtain ⟨ys, n', hn', hy, hlen, hyl, hf⟩ := DataW.trod_struct he ht'
    obtain ⟨_, hcl, hat⟩ := World.cells?_some hc
    simp only [Prod.mk.injEq] at hy
    refine ⟨ys, n', hy.1, hy.2, hyl, fun j f hj => ?_⟩
    obtain ⟨ho, hk⟩ := hone_of hone j f hj
    have hjl : j < fs.size := (Array.getElem?_eq_some_iff.1 hj).1
    have hcell := hat j hjl
    have hv : cs'[j]? = some (cs'[j]'(by omega)) := List.getElem?_eq_getElem (by omega)
    have h1 := hf j f hj
    rw [ho, hk] at h1
    have hone' : (cs'.drop j).take 1 = [cs'[j]'(by omega)] := by
      rw [List.drop_eq_getElem_cons (by omega)]
      rfl
    rw [hone'] at h1
    have hys : ys[j]? = some (ys[j]'(by omega)) := List.getElem?_eq_getElem (by omega)
    refine ⟨_, _, ?_, hys, h1.trans hys⟩
    rw [← Go.Deep.add_add, hcell, hv]
end

set_option maxRecDepth 100000 in
theorem open_u32 {W : World} {base t : Nat} {v : Value} (hu : Tryz.prog.underlying t = some (.int .u32)) (hv : Value.okWide Tryz.prog W .any base t v) : ∃ n : Nat, v = .int .u32 (n : Int) ∧ n < 4294967296 := by
  obtain ⟨n, rfl, h0, h1⟩ := open_int hu hv
  have h2 : (0 : Int) ≤ n := h0
  have e : IntKind.u32.max = 4294967295 := by decide
  rw [e] at h1
  exact ⟨n.toNat, by rw [Int.toNat_of_nonneg h2], by omega⟩
end Go.Proofs.YtnlepoplncjliaaGreatDoor

namespace Go.Proofs.YtnlepoplncjliaaGreatDoor
open Go.ChangeShapes Go.WideShapes Go.Deep Go.RowKit

set_option maxRecDepth 100000 in
theorem open_acts2 {H : Type} {enc : TypeId × Value → H} {W : World} {base : Nat} {v : Value} {d : DataW H} {p : List MemPlace} (hv : Value.okWide Tryz.prog W .any base 50 v)
    (h : DataW.Trod enc Tryz.prog W 0 (fun _ => true) true 50 v d p) : ∃ A len cap l, v = .slice A len cap ∧ Reads W W.heap.size 3 A len (acsV l) ∧ ∀ a ∈ l, Byt a.data ∧ I64 a.n ∧ I64 a.kind := by
  obtain ⟨A, len, cap, rfl⟩ := okWide_slice Tryz.underlying50 hv
  obtain ⟨m, hm⟩ := h
  rcases open_slice_fields Tryz.underlying50 Tryz.underlying57 (by kernel_rfl) (by kernel_rfl) hm with ⟨hcs, -⟩ | ⟨a, len', cap', k, D, Pl, hcs, -, hlc, -, hk, -, hf⟩
  · simp [Value.cells] at hcs
    obtain ⟨rfl, rfl, rfl⟩ := hcs
    exact ⟨none, 0, 0, [], rfl, Reads.none_, by simp⟩
  · simp only [if_true] at hk
    simp [Value.cells] at hcs
    obtain ⟨rfl, rfl, rfl⟩ := hcs
    obtain ⟨l, hl, hp⟩ := choose_at (α := ActV) len (fun i f => (Byt f.data ∧ I64 f.n ∧ I64 f.kind) ∧ ∀ j u, f.cs[j]? = some u → W.cell? (a.add (i * 3 + j)) = some u) fun i hi => by
      obtain ⟨ys, n, -, -, hyl, hfj⟩ := hf i (by omega)
      obtain ⟨v0, z0, k0, -, t0⟩ := hfj 0 _ rfl
      obtain ⟨v1, z1, k1, -, t1⟩ := hfj 1 _ rfl
      obtain ⟨v2, z2, k2, -, t2⟩ := hfj 2 _ rfl
      obtain ⟨x0, e0, -, hw0⟩ := DataW.trod_int Tryz.underlying3 t0
      obtain ⟨x1, e1, -, hwf⟩ := DataW.trod_int Tryz.underlying3 t1
      obtain ⟨x2, e2, -⟩ := DataW.trod_string Tryz.underlying9 t2
      simp at e0 e1 e2
      subst e0 e1 e2
      obtain ⟨s, rfl, hs, -⟩ := strOf_of x2
      simp only [Lit.wf, Bool.and_eq_true, decide_eq_true_eq] at hwf hw0
      refine ⟨⟨x0, x1, s⟩, ⟨hs, ⟨hwf.1, hwf.2⟩, hw0.1, hw0.2⟩, fun j u hu => ?_⟩
      match j, hu with
      | 0, hu => simp [ActV.cs] at hu; subst hu; exact k0
      | 1, hu => simp [ActV.cs] at hu; subst hu; exact k1
      | 2, hu => simp [ActV.cs] at hu; subst hu; exact k2
      | j + 3, hu => simp [ActV.cs] at hu
    refine ⟨some a, len, cap, l, rfl, ⟨by rw [acsV_len, hl], fun hpos => ⟨a, rfl, ?_, fun j u hu => ?_⟩⟩, fun x hx => ?_⟩
    · obtain ⟨f, hf0⟩ : ∃ f, l[0]? = some f := ⟨_, List.getElem?_eq_getElem (by omega)⟩
      have := World.block_lt_of_cell? W _ ((hp 0 f hf0).2 0 _ rfl)
      rwa [block_of_add] at this
    · have hj : j < len * 3 := by have := (List.getElem?_eq_some_iff.1 hu).1; rw [acsV_len, hl] at this; exact this
      have hi : j / 3 < l.length := by omega
      obtain ⟨f, hf0⟩ : ∃ f, l[j / 3]? = some f := ⟨_, List.getElem?_eq_getElem hi⟩
      have hj3 : j % 3 < f.cs.length := by show j % 3 < 3; omega
      have hg := acsV_at hf0 (j % 3) _ (List.getElem?_eq_getElem hj3)
      rw [show j / 3 * 3 + j % 3 = j by omega, hu] at hg
      have := (hp (j / 3) f hf0).2 (j % 3) u (by rw [List.getElem?_eq_getElem hj3, ← hg])
      rwa [show j / 3 * 3 + j % 3 = j by omega] at this
    · obtain ⟨j, hj, rfl⟩ := List.getElem_of_mem hx
      exact (hp j _ (List.getElem?_eq_getElem hj)).1
set_option maxRecDepth 100000 in
theorem open_keeps {H : Type} {enc : TypeId × Value → H} {W : World} {base : Nat} {v : Value} {d : DataW H} {p : List MemPlace} (hv : Value.okWide Tryz.prog W .any base 71 v)
    (h : DataW.Trod enc Tryz.prog W 0 (fun _ => true) true 71 v d p) : ∃ A len cap l, v = .slice A len cap ∧ Reads W W.heap.size 2 A len (kpsV l) ∧ ∀ t ∈ l, I64 t.1 ∧ I64 t.2 := by
  obtain ⟨A, len, cap, rfl⟩ := okWide_slice Tryz.underlying71 hv
  obtain ⟨m, hm⟩ := h
  rcases open_slice_fields Tryz.underlying71 Tryz.underlying106 (by kernel_rfl) (by kernel_rfl) hm with ⟨hcs, -⟩ | ⟨a, len', cap', k, D, Pl, hcs, -, hlc, -, hk, -, hf⟩
  · simp [Value.cells] at hcs
    obtain ⟨rfl, rfl, rfl⟩ := hcs
    exact ⟨none, 0, 0, [], rfl, Reads.none_, by simp⟩
  · simp only [if_true] at hk
    simp [Value.cells] at hcs
    obtain ⟨rfl, rfl, rfl⟩ := hcs
    obtain ⟨l, hl, hp⟩ := choose_at (α := Int × Int) len (fun i f => (I64 f.1 ∧ I64 f.2) ∧ ∀ j u, (kpCs f)[j]? = some u → W.cell? (a.add (i * 2 + j)) = some u) fun i hi => by
      obtain ⟨ys, n, -, -, hyl, hfj⟩ := hf i (by omega)
      obtain ⟨v0, z0, k0, -, t0⟩ := hfj 0 _ rfl
      obtain ⟨v1, z1, k1, -, t1⟩ := hfj 1 _ rfl
      obtain ⟨x0, e0, -, hw0⟩ := DataW.trod_int Tryz.underlying3 t0
      obtain ⟨x1, e1, -, hw1⟩ := DataW.trod_int Tryz.underlying3 t1
      simp at e0 e1
      subst e0 e1
      simp only [Lit.wf, Bool.and_eq_true, decide_eq_true_eq] at hw0 hw1
      refine ⟨(x0, x1), ⟨⟨hw0.1, hw0.2⟩, hw1.1, hw1.2⟩, fun j u hu => ?_⟩
      match j, hu with
      | 0, hu => simp [kpCs] at hu; subst hu; exact k0
      | 1, hu => simp [kpCs] at hu; subst hu; exact k1
      | j + 2, hu => simp [kpCs] at hu
    refine ⟨some a, len, cap, l, rfl, ⟨by rw [kpsV_len, hl], fun hpos => ⟨a, rfl, ?_, fun j u hu => ?_⟩⟩, fun x hx => ?_⟩
    · obtain ⟨f, hf0⟩ : ∃ f, l[0]? = some f := ⟨_, List.getElem?_eq_getElem (by omega)⟩
      have := World.block_lt_of_cell? W _ ((hp 0 f hf0).2 0 _ rfl)
      rwa [block_of_add] at this
    · have hj : j < len * 2 := by have := (List.getElem?_eq_some_iff.1 hu).1; rw [kpsV_len, hl] at this; exact this
      have hi : j / 2 < l.length := by omega
      obtain ⟨f, hf0⟩ : ∃ f, l[j / 2]? = some f := ⟨_, List.getElem?_eq_getElem hi⟩
      have hj3 : j % 2 < (kpCs f).length := by show j % 2 < 2; omega
      have hg := kpsV_at hf0 (j % 2) _ (List.getElem?_eq_getElem hj3)
      rw [show j / 2 * 2 + j % 2 = j by omega, hu] at hg
      have := (hp (j / 2) f hf0).2 (j % 2) u (by rw [List.getElem?_eq_getElem hj3, ← hg])
      rwa [show j / 2 * 2 + j % 2 = j by omega] at this
    · obtain ⟨j, hj, rfl⟩ := List.getElem_of_mem hx
      exact (hp j _ (List.getElem?_eq_getElem hj)).1
end Go.Proofs.YtnlepoplncjliaaGreatDoor

