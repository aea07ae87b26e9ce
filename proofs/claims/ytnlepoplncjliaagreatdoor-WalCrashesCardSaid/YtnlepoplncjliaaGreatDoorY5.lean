/-
  Texts that were joined: WiO, TOpen, WdD, WfD, WjC. Conditions: what each theorem names.
-/
import Derived.Test.YtnlepoplncjliaaGreatDoorY4
import Derived.ProofKit
import Derived.OpenShut
import Derived.Lib.SmallJoins
import Derived.Deep.Slices
import Derived.Deep.Fields
import Derived.ChangeSame
import Derived.LaidMore
import Derived.Lib.LaidTab
import Derived.Shelf.Vars
set_option linter.unusedSectionVars false
namespace Go.Proofs.YtnlepoplncjliaaGreatDoor
open Go.RowKit

theorem zero_debenturelaw06_Act : zeroIs Tryz.prog 57 = some (some (.agg #[.int .i64 0, .int .i64 0, .string { data := #[] }])) := by kernel_rfl
theorem run_build_act9 (w : World) : (Instr.build 57 #[(0, .int .i64 9)]).run Tryz.prog w = .ok (.agg #[.int .i64 9, .int .i64 0, .string { data := #[] }]) w := by
  have hu := Tryz.underlying57
  go_simp
theorem PlIs.up {D : Dk} {W : Wl} {segs : List (Nat × List (List Nat))} {k : Nat} (h : PlIs D W segs k) : PlIs D W segs (k + 1) := by
  have h2 := h.files
  have h3 := h.used
  have h4 := h.num
  have h5 := h.cnt
  have h6 := h.size
  have h7 := h.recs
  exact ⟨h.wl, h.room, by omega, by omega, by omega, by omega, by omega, by omega⟩
/-- Acts under way on an armed disk: on still, or the power went by the last one. -/
def StI (i : Nat) (D : Dk) (W : Wl) (segs : List (Nat × List (List Nat))) (un : ActV) : Prop :=
  (un.kind = 9 ∧ ∃ D0 M, D = D0.arm M ∧ PlIs D0 W segs i) ∨ ((un.kind = 0 ∨ un.kind = 2) ∧ ∃ W0, W = { W0 with broken := true } ∧ OffR un D W0 segs ∧ (recsOf segs).length ≤ 30 ∧ (∀ r ∈ recsOf segs, Byt r.2) ∧ Byt un.data ∧ I64 un.n)
theorem rec_cell {w wr : World} {B n i : Nat} {ad : Addr} {l : List (Nat × List Nat)} {r : Nat × List Nat} (h : Reads w B 2 (some ad) n (recsV l)) (hb : Below B w wr) (hf : l[i]? = some r) (j : Nat) (v : Value) (hj : (recV r)[j]? = some v) : wr.cell? ((ad.add (i * 2)).add j) = some v := by
  obtain ⟨ad', e, -, -, hc⟩ := h.rec hb hf
  injection e with e
  subst e
  exact hc j v hj
theorem StI.left {i : Nat} {D : Dk} {W : Wl} {segs : List (Nat × List (List Nat))} {un : ActV} (h : StI i D W segs un) (hi : i ≤ 30) : ∃ rs more, (∀ kf, Left (D.crashed kf) rs more) ∧ (recsOf segs).length ≤ 30 ∧ (∀ r ∈ recsOf segs, Byt r.2) ∧ ((un.kind ≠ 2 ∧ rs = recsOf segs ∧ (more = [] ∨ (un.kind = 0 ∧ Byt un.data ∧ more = [(W.num, un.data)]))) ∨ (un.kind = 2 ∧ I64 un.n ∧ more = [] ∧ ∃ pre, recsOf segs = pre ++ rs ∧ ∀ r ∈ pre, (r.1 : Int) < min un.n (W.num : Int))) := by
  rcases h with ⟨h9, D0, M, rfl, hP⟩ | ⟨-, W0, rfl, ⟨-, -, hO⟩, h30, hb, hd, hn⟩
  · have hr := hP.recs
    refine ⟨recsOf segs, [], fun kf => hP.left_all (by omega) (E := D0.arm M) rfl rfl kf [], by omega, recsOf_byt hP.wl.log, .inl ⟨by omega, rfl, .inl rfl⟩⟩
  · rcases hO with ⟨h0, hL⟩ | ⟨h2, u, t, rfl, hu, hL⟩
    · exact ⟨recsOf segs, [(W0.num, un.data)], hL, h30, hb, .inl ⟨by omega, rfl, .inr ⟨h0, hd, rfl⟩⟩⟩
    · refine ⟨recsOf t, [], hL, h30, hb, .inr ⟨h2, hn, rfl, recsOf u, by rw [recsOf_app], fun r hr => ?_⟩⟩
      obtain ⟨s, hs, h3⟩ := List.mem_flatMap.1 hr
      obtain ⟨x, -, rfl⟩ := List.mem_map.1 h3
      exact hu s hs
set_option maxHeartbeats 8000000 in
theorem walk_crashes (B : Nat) (A A2 : Option Addr) (n c n2 cc2 : Nat) (l : List ActV) (kp : List (Int × Int)) (ar : Int) (w : World) (hB : B = w.heap.size) (gv : Gv w) (hr : Reads w B 3 A n (acsV l)) (hl : ∀ a ∈ l, Byt a.data ∧ I64 a.n ∧ I64 a.kind) (hr2 : Reads w B 2 A2 n2 (kpsV kp)) (hI : ∀ q ∈ kp, I64 q.1 ∧ I64 q.2) (har : I64 ar) :
    Calls Tryz.prog 8 #[.slice A n c, .int .i64 ar, .slice A2 n2 cc2] w fun e w' => e = .returned (.bool true) ∧ Grow w w' := by
  have bf := Bf.refl B w
  have hgw := tab_lt gv.pow
  have hBle : B ≤ w.heap.size := Nat.le_of_eq hB
  rw [← hB] at hgw
  have done : ∀ w', Bf B w w' → Grow w w' := fun w' h => by
    have := h.to hBle
    rwa [hB] at this
  have hln : l.length = n := by have := hr.1; rw [acsV_len] at this; omega
  refine Calls.start 240 Tryz.func8 rfl rfl rfl ?_
  refine Cd.seq ?_
  refine Cd.region ?_
  refine Seq.val (Runs.assign rfl rfl) rfl rfl rfl ?_
  refine Seq.nil ?_
  refine Post.weak (F' := [(0, _), (1, _), (2, _), (6, _)]) ⟨rfl, rfl, rfl, rfl, trivial⟩ ?_
  refine Post.then_ ?_
  refine Cd.seq ?_
  refine Cd.seq ?_
  refine Cd.region ?_
  refine Seq.val (Runs.move rfl rfl) rfl rfl rfl ?_
  refine Seq.call (Enters.func rfl rfl rfl (run_enter Tryz.func23 (by kernel_rfl) rfl)) rfl rfl rfl (great_any A n c l _ (by rw [← hB]; exact hr)) ?_
  rintro e w4 ⟨rfl, hb4⟩
  refine ⟨_, rfl, ?_⟩
  replace bf := bf.step hb4
  replace gv := gv.step hb4
  refine Seq.val (Runs.move rfl rfl) rfl rfl rfl ?_
  refine SeqC.start ?_
  refine SeqC.openC rfl rfl rfl rfl rfl rfl rfl (fun hcx => Enters.func rfl rfl rfl (run_enter Tryz.func11 (by kernel_rfl) rfl)) (fun hcx => awake_any _ gv) ?_
  intro w1 hw1
  replace bf := bf.step hw1
  replace gv := gv.step hw1
  refine SeqC.next rfl rfl rfl rfl rfl rfl rfl (fun hcx => Runs.not rfl rfl) ?_
  refine SeqC.or rfl rfl rfl rfl rfl rfl rfl ?_
  refine Seq.nil ?_
  refine Post.weak (F' := [(0, _), (1, _), (2, _), (6, _), (26, _)]) ⟨rfl, rfl, rfl, rfl, rfl, trivial⟩ ?_
  refine Post.then_ ?_
  refine Cd.cond rfl (fun h => ?_) (fun h => ?_)
  · skip
    refine Cd.seq ?_
    refine Cd.region ?_
    refine Seq.call (Enters.func rfl rfl rfl (run_enter Tryz.func11 (by kernel_rfl) rfl)) rfl rfl rfl (awake_any _ gv) ?_
    rintro e w5 ⟨rfl, hb5⟩
    refine ⟨_, rfl, ?_⟩
    replace bf := bf.step hb5
    replace gv := gv.step hb5
    refine Seq.val (Runs.assign rfl rfl) rfl rfl rfl ?_
    refine Seq.nil ?_
    refine Post.weak (F' := [(0, _), (1, _), (2, _), (6, _), (26, _)]) ⟨rfl, rfl, rfl, rfl, rfl, trivial⟩ ?_
    refine Post.then_ ?_
    refine Cd.ret ?_
    refine Post.then_ret ?_
    refine Post.end1 rfl rfl (.inl rfl) ?_
    exact ⟨rfl, done _ bf⟩
  have h : greatL l = false := by
    cases e : greatL l with
    | false => rfl
    | true => rw [e] at h; cases h
  unfold greatL at h
  rw [Bool.or_eq_false_iff, decide_eq_false_iff_not, List.any_eq_false] at h
  obtain ⟨hn20, hall⟩ := h
  refine Cd.skip ?_
  refine Post.then_ ?_
  refine Cd.seq ?_
  refine Cd.region ?_
  have hsz0 := Nat.le_trans hBle bf.size
  refine Seq.call (Enters.func rfl rfl rfl (run_enter Tryz.func24 (by kernel_rfl) rfl)) rfl rfl rfl (begin_r_any _ gv) ?_
  rintro e w5 ⟨gr, rfl, hR, hb5⟩
  refine ⟨_, rfl, ?_⟩
  replace hR := hR.mono hsz0
  replace bf := bf.step hb5
  replace gv := gv.step hb5
  have hP := PlIs.begin_
  refine Seq.val (Runs.assign rfl rfl) rfl rfl rfl ?_
  refine Seq.nil ?_
  refine Post.weak (F' := [(0, _), (1, _), (2, _), (6, _), (7, _), (26, _)]) ⟨rfl, rfl, rfl, rfl, rfl, rfl, trivial⟩ ?_
  refine Post.then_ ?_
  refine Cd.seq ?_
  refine Cd.seq ?_
  refine Cd.region ?_
  refine Seq.val (Runs.move rfl rfl) rfl rfl rfl ?_
  refine Seq.val (Runs.eqlP rfl rfl rfl Tryz.underlying52) rfl rfl rfl ?_
  refine Seq.nil ?_
  refine Post.weak (F' := [(0, _), (1, _), (2, _), (6, _), (7, _), (26, _), (30, _)]) ⟨rfl, rfl, rfl, rfl, rfl, rfl, rfl, trivial⟩ ?_
  refine Post.then_ ?_
  refine Cd.condF rfl rfl ?_
  obtain ⟨⟨gd, g6, v, k90, dk, k6, own, e6⟩, e90⟩ := hR
  obtain ⟨u, hu, hu64⟩ := uint_nat ar
  refine Cd.skip ?_
  refine Post.then_ ?_
  refine Cd.seq ?_
  refine Cd.region ?_
  refine Seq.val (Runs.move rfl rfl) rfl rfl rfl ?_
  refine Seq.val (Runs.nilCheck rfl rfl) rfl rfl rfl ?_
  refine Seq.val (Runs.fieldB 0 rfl rfl Tryz.underlying59 rfl (by kernel_rfl)) rfl rfl rfl ?_
  refine Seq.val (Runs.loadB rfl rfl Tryz.underlying26 rfl k90 rfl) rfl rfl rfl ?_
  refine Seq.val (Runs.move rfl rfl) rfl rfl rfl ?_
  refine Seq.val (Runs.convU (r := u) rfl rfl Tryz.underlying3 Tryz.underlying67 hu) rfl rfl rfl ?_
  refine Seq.val (Runs.remN rfl rfl rfl (by omega) (by omega)) rfl rfl rfl ?_
  obtain ⟨M, hM, hM60⟩ : ∃ M : Nat, (u : Int) % 60 = (M : Int) ∧ M < 60 := ⟨u % 60, by omega, by omega⟩
  rw [hM]
  refine Seq.val (Runs.convI (r := (M : Int)) rfl rfl Tryz.underlying67 Tryz.underlying3 (wrapI (by omega) (by omega))) rfl rfl rfl ?_
  refine Seq.call (Enters.func rfl rfl rfl (run_enter Tryz.func26 (by kernel_rfl) rfl)) rfl rfl rfl (arm_any B gd (Dk.new 1048576) (M : Int) _ dk (by omega) (by omega)) ?_
  clear dk
  rintro e w2 ⟨rfl, dk, fw2⟩
  refine ⟨_, rfl, ?_⟩
  replace bf := bf.df fw2
  replace gv := gv.df fw2
  replace k90 := k90.df fw2
  replace k6 := k6.df fw2
  replace own := own.df fw2
  replace dk : DkAt _ B gd ((Dk.new 1048576).arm M) := dk
  refine Seq.nil ?_
  refine Post.weak (F' := [(0, _), (1, _), (2, _), (6, _), (7, _), (26, _), (30, _)]) ⟨rfl, rfl, rfl, rfl, rfl, rfl, rfl, trivial⟩ ?_
  refine Post.then_ ?_
  refine Cd.seq ?_
  refine Cd.region ?_
  refine Seq.val (Runs.build rfl rfl (run_build_act9 _)) rfl rfl rfl ?_
  have hsz8 := Nat.le_trans hBle bf.size
  have hlt90 := k90.lt
  refine Seq.alloc rfl (run_zero zero_debenturelaw06_Act) rfl rfl rfl ?_
  intro g8 w3 n8
  have l8 := Nat.lt_of_lt_of_le k6.lt n8.ge
  replace bf := bf.step n8.below
  replace gv := gv.step n8.below
  replace k90 := k90.step n8.below
  replace dk := dk.step n8.below
  replace k6 := k6.step n8.below
  replace own := own.step n8.below
  have k8 := n8.blk
  have hlt8 : gr < g8 := Nat.lt_of_lt_of_le hlt90 n8.ge
  have e8 : B ≤ g8 := Nat.le_trans hsz8 n8.ge
  refine Seq.storeN rfl rfl rfl rfl (m := 3) (by kernel_rfl) rfl (by repeat' first | exact trivial | apply And.intro | rfl | assumption) k8 (by simp [Value.cells]) rfl rfl ?_
  intro w4 pw4
  replace bf := bf.put k8 pw4 e8
  replace gv := gv.put k8 pw4 e8
  replace k90 := k90.put pw4 (by omega)
  replace dk := dk.put k8 pw4 e8
  replace k6 := k6.put pw4 (by omega)
  replace own := own.put k8 pw4 e8
  replace k8 := pw4.blk
  refine Seq.nil ?_
  refine Post.weak (F' := [(0, _), (1, _), (2, _), (6, _), (7, _), (8, _), (26, _), (30, _)]) ⟨rfl, rfl, rfl, rfl, rfl, rfl, rfl, rfl, trivial⟩ ?_
  refine Post.then_ ?_
  refine Cd.seq ?_
  refine Cd.seq ?_
  refine Cd.region ?_
  refine Seq.val (Runs.assign rfl rfl) rfl rfl rfl ?_
  refine Seq.nil ?_
  refine Post.weak (F' := [(0, _), (1, _), (2, _), (6, _), (7, _), (8, _), (9, _), (26, _), (30, _)]) ⟨rfl, rfl, rfl, rfl, rfl, rfl, rfl, rfl, rfl, trivial⟩ ?_
  refine Post.then_ ?_
  refine Cd.block ?_
  replace k8 : Blk _ g8 57 (ActV.mk 9 0 []).cs.toArray := k8
  have hR : RunAt _ B gr ((Dk.new 1048576).arm M) ⟨0, 0, 0, false⟩ [] := ⟨⟨gd, g6, v, k90, dk, k6, own, e6⟩, e90⟩
  have hS : StI 0 ((Dk.new 1048576).arm M) ⟨0, 0, 0, false⟩ [] (ActV.mk 9 0 []) := .inl ⟨rfl, _, M, rfl, hP⟩
  refine Cd.loop (σ := Nat × Dk × Wl × List (Nat × List (List Nat)) × ActV) (fun q => [(0, .slice A n c), (2, .slice A2 n2 cc2), (7, .pointer (some ⟨gr, 0, none⟩)), (8, .pointer (some ⟨g8, 0, none⟩)), (9, .int .i64 (q.1 : Int))]) (fun q wr => q.1 ≤ n ∧ StI q.1 q.2.1 q.2.2.1 q.2.2.2.1 q.2.2.2.2 ∧ RunAt wr B gr q.2.1 q.2.2.1 q.2.2.2.1 ∧ Bf B w wr ∧ Gv wr ∧ Blk wr g8 57 q.2.2.2.2.cs.toArray) (fun q => n - q.1) (0, (Dk.new 1048576).arm M, ⟨0, 0, 0, false⟩, [], ActV.mk 9 0 []) ⟨Nat.zero_le _, hS, hR, bf, gv, k8⟩ ⟨rfl, rfl, rfl, rfl, rfl, trivial⟩ ?_
  clear hP hR hS bf gv k8 k90 dk k6 own
  rintro ⟨i, D, W, segs, un⟩ wr ⟨hi, hS, hR, bf, gv, k8⟩
  simp only at hi hS hR k8
  show Cd _ _ _ _ [(0, .slice A n c), (2, .slice A2 n2 cc2), (7, .pointer (some ⟨gr, 0, none⟩)), (8, .pointer (some ⟨g8, 0, none⟩)), (9, .int .i64 (i : Int))] _
  obtain ⟨uk, un_, ud⟩ := un
  replace k8 : Blk wr g8 57 #[.int .i64 uk, .int .i64 un_, .string (strOf ud)] := k8
  refine Cd.seq ?_
  refine Cd.seq ?_
  refine Cd.region ?_
  refine Seq.val (Runs.move rfl rfl) rfl rfl rfl ?_
  refine Seq.val (Runs.move rfl rfl) rfl rfl rfl ?_
  refine Seq.val (Runs.len rfl rfl Tryz.underlying50) rfl rfl rfl ?_
  refine Seq.val (Runs.lss rfl rfl rfl) rfl rfl rfl ?_
  refine Seq.val (Runs.move rfl rfl) rfl rfl rfl ?_
  refine SeqC.start ?_
  refine SeqC.open rfl rfl rfl rfl rfl rfl rfl (fun hcx => Runs.fieldB 0 rfl rfl Tryz.underlying57 rfl (by kernel_rfl)) ?_
  refine SeqC.next rfl rfl rfl rfl rfl rfl rfl (fun hcx => Runs.loadB rfl rfl Tryz.underlying3 rfl k8 rfl) ?_
  refine SeqC.next rfl rfl rfl rfl rfl rfl rfl (fun hcx => Runs.eqlI rfl rfl rfl) ?_
  refine SeqC.and rfl rfl rfl rfl rfl rfl rfl ?_
  refine Seq.nil ?_
  refine Post.weak (F' := [(0, _), (2, _), (7, _), (8, _), (9, _), (49, _)]) ⟨rfl, rfl, rfl, rfl, rfl, rfl, trivial⟩ ?_
  refine Post.then_ ?_
  refine Cd.cond rfl (fun h => ?_) (fun h => ?_)
  · have h : i < n ∧ uk = 9 := by
      have h' : (decide ((i : Int) < (n : Int)) && decide (uk = 9)) = true := h
      rw [Bool.and_eq_true, decide_eq_true_eq, decide_eq_true_eq] at h'
      omega
    obtain ⟨hin, rfl⟩ := h
    obtain ⟨a, ha⟩ : ∃ a, l[i]? = some a := ⟨_, List.getElem?_eq_getElem (by omega)⟩
    have ham := List.mem_of_getElem? ha
    obtain ⟨hd, hn, hak⟩ := hl a ham
    have hdl : a.data.length ≤ 300 := by simpa using hall a ham
    obtain ⟨ad, rfl, -, -, hcl⟩ := hr.act (bf.to hBle) ha
    obtain ⟨D0, M, rfl, hP⟩ : ∃ D0 M, D = D0.arm M ∧ PlIs D0 W segs i := by
      rcases hS with ⟨-, h2⟩ | ⟨h1, -⟩
      · exact h2
      · rcases h1 with h1 | h1
        · exact absurd (show (9 : Int) = 0 from h1) (by decide)
        · exact absurd (show (9 : Int) = 2 from h1) (by decide)
    refine Cd.skip ?_
    refine Post.then_ ?_
    refine Cd.seq ?_
    refine Cd.block ?_
    refine Cd.seq ?_
    refine Cd.seq ?_
    refine Cd.region ?_
    refine Seq.val (Runs.move rfl rfl) rfl rfl rfl ?_
    refine Seq.val (Runs.move rfl rfl) rfl rfl rfl ?_
    refine Seq.val (Runs.indexN rfl rfl rfl Tryz.underlying50 (s := 3) (by kernel_rfl) (j := i) rfl (by omega)) rfl rfl rfl ?_
    refine Seq.val (Runs.fieldA 0 rfl rfl Tryz.underlying57 rfl (by kernel_rfl)) rfl rfl rfl ?_
    refine Seq.val (Runs.load1 rfl rfl Tryz.underlying3 rfl (hcl 0 _ rfl)) rfl rfl rfl ?_
    refine Seq.val (Runs.lss rfl rfl rfl) rfl rfl rfl ?_
    refine Seq.val (Runs.move rfl rfl) rfl rfl rfl ?_
    refine SeqC.start ?_
    refine SeqC.open rfl rfl rfl rfl rfl rfl rfl (fun hcx => Runs.move rfl rfl) ?_
    refine SeqC.next rfl rfl rfl rfl rfl rfl rfl (fun hcx => Runs.move rfl rfl) ?_
    refine SeqC.next rfl rfl rfl rfl rfl rfl rfl (fun hcx => Runs.indexN rfl rfl rfl Tryz.underlying50 (s := 3) (by kernel_rfl) (j := i) rfl (by omega)) ?_
    refine SeqC.next rfl rfl rfl rfl rfl rfl rfl (fun hcx => Runs.fieldA 0 rfl rfl Tryz.underlying57 rfl (by kernel_rfl)) ?_
    refine SeqC.next rfl rfl rfl rfl rfl rfl rfl (fun hcx => Runs.load1 rfl rfl Tryz.underlying3 rfl (hcl 0 _ rfl)) ?_
    refine SeqC.next rfl rfl rfl rfl rfl rfl rfl (fun hcx => Runs.gtr rfl rfl rfl) ?_
    refine SeqC.or rfl rfl rfl rfl rfl rfl rfl ?_
    refine Seq.nil ?_
    refine Post.weak (F' := [(0, _), (2, _), (7, _), (8, _), (9, _), (49, _), (65, _)]) ⟨rfl, rfl, rfl, rfl, rfl, rfl, rfl, trivial⟩ ?_
    refine Post.then_ ?_
    refine Cd.cond rfl (fun h => ?_) (fun h => ?_)
    · skip
      refine Cd.exit ?_
      refine Post.then_exit ?_
      refine Post.block_exit ?_
      refine Post.then_ ?_
      refine Cd.region ?_
      refine Seq.val (Runs.move rfl rfl) rfl rfl rfl ?_
      refine Seq.val (Runs.addI rfl rfl rfl (by omega) (by omega)) rfl rfl rfl ?_
      refine Seq.val (Runs.assign rfl rfl) rfl rfl rfl ?_
      refine Seq.nil ?_
      refine Post.weak (F' := [(0, _), (2, _), (7, _), (8, _), (9, _), (49, _), (65, _)]) ⟨rfl, rfl, rfl, rfl, rfl, rfl, rfl, trivial⟩ ?_
      exact Post.round (i + 1, D0.arm M, W, segs, ActV.mk 9 un_ ud) ⟨rfl, rfl, rfl, rfl, int_at (by omega), trivial⟩ ⟨by simp only; omega, .inl ⟨rfl, D0, M, rfl, hP.up⟩, hR, bf, gv, k8⟩ (by simp only; omega)
    have hkk : 0 ≤ a.kind ∧ a.kind ≤ 3 := by
      have h' : (decide (a.kind < 0) || decide (3 < a.kind)) = false := h
      rw [Bool.or_eq_false_iff, decide_eq_false_iff_not, decide_eq_false_iff_not] at h'
      omega
    have hPr := hP.recs
    have hPb := recsOf_byt hP.wl.log
    refine Cd.skip ?_
    refine Post.then_ ?_
    refine Cd.seq ?_
    refine Cd.region ?_
    refine Seq.val (Runs.move rfl rfl) rfl rfl rfl ?_
    refine Seq.val (Runs.move rfl rfl) rfl rfl rfl ?_
    refine Seq.val (Runs.move rfl rfl) rfl rfl rfl ?_
    refine Seq.val (Runs.indexN rfl rfl rfl Tryz.underlying50 (s := 3) (by kernel_rfl) (j := i) rfl (by omega)) rfl rfl rfl ?_
    refine Seq.val (Runs.loadCs rfl rfl Tryz.underlying57 rfl (m := 3) (ps := a.cs) (by kernel_rfl) rfl hcl) rfl rfl rfl ?_
    refine Seq.call (Enters.func rfl rfl rfl (run_enter Tryz.func25 (by kernel_rfl) rfl)) rfl rfl rfl (does_arm_any B gr M a D0 W segs i _ gv hgw hP (by omega) hR hd hdl hn g8 _ k8 hkk.1 hkk.2) ?_
    rintro e w7 (⟨D', W', segs', M', rfl, hP', hR', hbf, k8'⟩ | ⟨E, rfl, hOff, hR', hbf, k8'⟩)
    · refine ⟨_, rfl, ?_⟩
      replace bf := bf.bf hbf
      replace gv := gv.bf hbf
      clear hR k8
      have hR := hR'
      have k8 := k8'
      clear hR' k8'
      refine Seq.val (Runs.move rfl rfl) rfl rfl rfl ?_
      refine Seq.val (Runs.extract rfl rfl rfl) rfl rfl rfl ?_
      refine Seq.val (Runs.extract rfl rfl rfl) rfl rfl rfl ?_
      refine Seq.val (Runs.assign rfl rfl) rfl rfl rfl ?_
      refine Seq.val (Runs.assign rfl rfl) rfl rfl rfl ?_
      refine Seq.nil ?_
      refine Post.weak (F' := [(0, _), (2, _), (7, _), (8, _), (9, _), (10, _), (11, _), (49, _), (65, _)]) ⟨rfl, rfl, rfl, rfl, rfl, rfl, rfl, rfl, rfl, trivial⟩ ?_
      refine Post.then_ ?_
      refine Cd.seq ?_
      refine Cd.seq ?_
      refine Cd.region ?_
      refine Seq.val (Runs.move rfl rfl) rfl rfl rfl ?_
      refine Seq.val (Runs.not rfl rfl) rfl rfl rfl ?_
      refine Seq.nil ?_
      refine Post.weak (F' := [(0, _), (2, _), (7, _), (8, _), (9, _), (10, _), (11, _), (49, _), (65, _), (76, _)]) ⟨rfl, rfl, rfl, rfl, rfl, rfl, rfl, rfl, rfl, rfl, trivial⟩ ?_
      refine Post.then_ ?_
      refine Cd.condF rfl rfl ?_
      refine Cd.skip ?_
      refine Post.then_ ?_
      refine Cd.seq ?_
      refine Cd.region ?_
      refine Seq.val (Runs.move rfl rfl) rfl rfl rfl ?_
      refine Seq.nil ?_
      refine Post.weak (F' := [(0, _), (2, _), (7, _), (8, _), (9, _), (10, _), (11, _), (49, _), (65, _), (76, _), (77, _)]) ⟨rfl, rfl, rfl, rfl, rfl, rfl, rfl, rfl, rfl, rfl, rfl, trivial⟩ ?_
      refine Post.then_ ?_
      refine Cd.condF rfl rfl ?_
      refine Cd.skip ?_
      refine Post.block_normal ?_
      refine Post.then_ ?_
      refine Cd.region ?_
      refine Seq.val (Runs.move rfl rfl) rfl rfl rfl ?_
      refine Seq.val (Runs.addI rfl rfl rfl (by omega) (by omega)) rfl rfl rfl ?_
      refine Seq.val (Runs.assign rfl rfl) rfl rfl rfl ?_
      refine Seq.nil ?_
      refine Post.weak (F' := [(0, _), (2, _), (7, _), (8, _), (9, _), (10, _), (11, _), (49, _), (65, _), (76, _), (77, _)]) ⟨rfl, rfl, rfl, rfl, rfl, rfl, rfl, rfl, rfl, rfl, rfl, trivial⟩ ?_
      exact Post.round (i + 1, D'.arm M', W', segs', ActV.mk 9 un_ ud) ⟨rfl, rfl, rfl, rfl, int_at (by omega), trivial⟩ ⟨by simp only; omega, .inl ⟨rfl, D', M', rfl, hP'⟩, hR, bf, gv, k8⟩ (by simp only; omega)
    · refine ⟨_, rfl, ?_⟩
      replace bf := bf.bf hbf
      replace gv := gv.bf hbf
      clear hR k8
      have hR := hR'
      have k8 := k8'
      clear hR' k8'
      refine Seq.val (Runs.move rfl rfl) rfl rfl rfl ?_
      refine Seq.val (Runs.extract rfl rfl rfl) rfl rfl rfl ?_
      refine Seq.val (Runs.extract rfl rfl rfl) rfl rfl rfl ?_
      refine Seq.val (Runs.assign rfl rfl) rfl rfl rfl ?_
      refine Seq.val (Runs.assign rfl rfl) rfl rfl rfl ?_
      refine Seq.nil ?_
      refine Post.weak (F' := [(0, _), (2, _), (7, _), (8, _), (9, _), (10, _), (11, _), (49, _), (65, _)]) ⟨rfl, rfl, rfl, rfl, rfl, rfl, rfl, rfl, rfl, trivial⟩ ?_
      refine Post.then_ ?_
      refine Cd.seq ?_
      refine Cd.seq ?_
      refine Cd.region ?_
      refine Seq.val (Runs.move rfl rfl) rfl rfl rfl ?_
      refine Seq.val (Runs.not rfl rfl) rfl rfl rfl ?_
      refine Seq.nil ?_
      refine Post.weak (F' := [(0, _), (2, _), (7, _), (8, _), (9, _), (10, _), (11, _), (49, _), (65, _), (76, _)]) ⟨rfl, rfl, rfl, rfl, rfl, rfl, rfl, rfl, rfl, rfl, trivial⟩ ?_
      refine Post.then_ ?_
      refine Cd.condF rfl rfl ?_
      refine Cd.skip ?_
      refine Post.then_ ?_
      refine Cd.seq ?_
      refine Cd.region ?_
      refine Seq.val (Runs.move rfl rfl) rfl rfl rfl ?_
      refine Seq.nil ?_
      refine Post.weak (F' := [(0, _), (2, _), (7, _), (8, _), (9, _), (10, _), (11, _), (49, _), (65, _), (76, _), (77, _)]) ⟨rfl, rfl, rfl, rfl, rfl, rfl, rfl, rfl, rfl, rfl, rfl, trivial⟩ ?_
      refine Post.then_ ?_
      refine Cd.condT rfl rfl ?_
      obtain ⟨⟨gd2, g62, v2, k90, dk, k62, own, e62⟩, e902⟩ := hR
      have hcl7 : ∀ (j : Nat) (u : Value), a.cs[j]? = some u → w7.cell? ((ad.add (i * 3)).add j) = some u := by
        obtain ⟨ad', e', -, -, hc⟩ := hr.act (bf.to hBle) ha
        injection e' with e'
        subst e'
        exact hc
      have hne1 := k90.neT k8
      have hne2 := k62.neT k8
      refine Cd.region ?_
      refine Seq.val (Runs.move rfl rfl) rfl rfl rfl ?_
      refine Seq.val (Runs.move rfl rfl) rfl rfl rfl ?_
      refine Seq.val (Runs.indexN rfl rfl rfl Tryz.underlying50 (s := 3) (by kernel_rfl) (j := i) rfl (by omega)) rfl rfl rfl ?_
      refine Seq.val (Runs.loadCs rfl rfl Tryz.underlying57 rfl (m := 3) (ps := [.int .i64 a.kind, .int .i64 a.n, .string (strOf a.data)]) (by kernel_rfl) rfl hcl7) rfl rfl rfl ?_
      refine Seq.storeN rfl rfl rfl rfl (m := 3) (by kernel_rfl) rfl (by repeat' first | exact trivial | apply And.intro | rfl | assumption) k8 (by simp [Value.cells]) rfl rfl ?_
      intro w5 pw5
      replace bf := bf.put k8 pw5 e8
      replace gv := gv.put k8 pw5 e8
      replace k90 := k90.put pw5 (by omega)
      replace dk := dk.put k8 pw5 e8
      replace k62 := k62.put pw5 (by omega)
      replace own := own.put k8 pw5 e8
      replace k8 := pw5.blk
      refine Seq.nil ?_
      refine Post.weak (F' := [(0, _), (2, _), (7, _), (8, _), (9, _), (10, _), (11, _), (49, _), (65, _), (76, _), (77, _)]) ⟨rfl, rfl, rfl, rfl, rfl, rfl, rfl, rfl, rfl, rfl, rfl, trivial⟩ ?_
      refine Post.block_normal ?_
      refine Post.then_ ?_
      refine Cd.region ?_
      refine Seq.val (Runs.move rfl rfl) rfl rfl rfl ?_
      refine Seq.val (Runs.addI rfl rfl rfl (by omega) (by omega)) rfl rfl rfl ?_
      refine Seq.val (Runs.assign rfl rfl) rfl rfl rfl ?_
      refine Seq.nil ?_
      refine Post.weak (F' := [(0, _), (2, _), (7, _), (8, _), (9, _), (10, _), (11, _), (49, _), (65, _), (76, _), (77, _)]) ⟨rfl, rfl, rfl, rfl, rfl, rfl, rfl, rfl, rfl, rfl, rfl, trivial⟩ ?_
      replace k8 : Blk _ g8 57 a.cs.toArray := k8
      refine Post.round (i + 1, E, { W with broken := true }, segs, a) ⟨rfl, rfl, rfl, rfl, int_at (by omega), trivial⟩ ⟨by simp only; omega, .inr ⟨?_, W, rfl, hOff, by simp only; omega, hPb, hd, hn⟩, ⟨⟨gd2, g62, v2, k90, dk, k62, own, e62⟩, e902⟩, bf, gv, k8⟩ (by simp only; omega)
      rcases hOff.2.2 with ⟨h1, -⟩ | ⟨h1, -⟩
      · exact .inl h1
      · exact .inr h1
  · obtain ⟨⟨gd, g6, v, k90, dk, k6, own, e6⟩, e90⟩ := hR
    obtain ⟨rs, more, hleft, hrl, hrb, hcase⟩ := hS.left (by omega)
    obtain ⟨A0, c0, rfl, -⟩ := own.reads
    obtain ⟨L, hL⟩ : ∃ L, L = recsOf segs := ⟨_, rfl⟩
    rw [← hL] at own k90 hrl hrb hcase
    clear k6
    refine Cd.exit ?_
    refine Post.then_exit ?_
    refine Post.round_exit ?_
    refine Post.block_exit ?_
    refine Post.then_ ?_
    refine Cd.seq ?_
    refine Cd.region ?_
    refine Seq.val (Runs.move rfl rfl) rfl rfl rfl ?_
    refine Seq.val (Runs.nilCheck rfl rfl) rfl rfl rfl ?_
    refine Seq.val (Runs.fieldB 0 rfl rfl Tryz.underlying59 rfl (by kernel_rfl)) rfl rfl rfl ?_
    refine Seq.val (Runs.loadB rfl rfl Tryz.underlying26 rfl k90 rfl) rfl rfl rfl ?_
    refine Seq.val (Runs.move rfl rfl) rfl rfl rfl ?_
    refine Seq.call (Enters.func rfl rfl rfl (run_enter Tryz.func34 (by kernel_rfl) rfl)) rfl rfl rfl (crash_d_any B gd D A2 n2 cc2 kp _ dk (hr2.below (bf.to hBle)) hI) ?_
    clear dk
    rintro e w5 ⟨kf, rfl, dk, fw5⟩
    refine ⟨_, rfl, ?_⟩
    replace bf := bf.df fw5
    replace gv := gv.df fw5
    replace k8 := k8.df fw5
    replace k90 := k90.df fw5
    replace own := own.df fw5
    obtain ⟨D1, R, nx, gs, ho1, -, -, -, -, -, -, -, hoff1, hown1, ⟨D2, nx2, ho2⟩, hR12, hoffD, hownD, -⟩ := (hleft kf).opens
    have hRb : (∀ r ∈ R, Byt r.2) ∧ R.length ≤ 31 := by
      rcases hcase with ⟨-, rfl, rfl | ⟨-, hd, rfl⟩⟩ | ⟨-, -, rfl, pre, hpre, -⟩
      · rw [List.append_nil, or_self] at hR12
        rw [hR12]
        exact ⟨hrb, by omega⟩
      · rcases hR12 with e | e
        · rw [e]
          exact ⟨hrb, by omega⟩
        · rw [e]
          refine ⟨fun r hr => ?_, by rw [List.length_append, List.length_singleton]; omega⟩
          rcases List.mem_append.1 hr with hr | hr
          · exact hrb r hr
          · simp at hr
            subst hr
            exact hd
      · rw [List.append_nil, or_self] at hR12
        rw [hR12]
        rw [hpre] at hrb hrl
        rw [List.length_append] at hrl
        exact ⟨fun r hr => hrb r (List.mem_append_right _ hr), by omega⟩
    obtain ⟨hRb, hRl⟩ := hRb
    refine Seq.nil ?_
    refine Post.weak (F' := [(0, _), (2, _), (7, _), (8, _), (9, _), (49, _)]) ⟨rfl, rfl, rfl, rfl, rfl, rfl, trivial⟩ ?_
    refine Post.then_ ?_
    refine Cd.seq ?_
    refine Cd.region ?_
    refine Seq.val (Runs.move rfl rfl) rfl rfl rfl ?_
    refine Seq.val (Runs.nilCheck rfl rfl) rfl rfl rfl ?_
    refine Seq.val (Runs.fieldB 0 rfl rfl Tryz.underlying59 rfl (by kernel_rfl)) rfl rfl rfl ?_
    refine Seq.val (Runs.loadB rfl rfl Tryz.underlying26 rfl k90 rfl) rfl rfl rfl ?_
    refine Seq.call (Enters.func rfl rfl rfl (run_enter Tryz.func13 (by kernel_rfl) rfl)) rfl rfl rfl (open_any B gd (D.crashed kf) [119] _ gv hgw dk hoff1 right_w (byt_one (by omega)) hown1) ?_
    clear dk
    rintro e w6 ⟨v1, v2, rfl, hO, dk, fw6⟩
    refine ⟨_, rfl, ?_⟩
    replace bf := bf.df fw6
    replace gv := gv.df fw6
    replace k8 := k8.df fw6
    replace k90 := k90.df fw6
    replace own := own.df fw6
    rw [ho1] at hO dk
    rw [ho1]
    rcases hO with ⟨h, -, -⟩ | ⟨-, g12, rfl, -, -, own13⟩
    · exact absurd rfl h
    replace own13 : Own _ _ 36 2 v2 R.length (recsV R) := own13
    replace dk : DkAt _ B gd D1 := dk
    obtain ⟨A13, c13, rfl, -⟩ := own13.reads
    refine Seq.val (Runs.move rfl rfl) rfl rfl rfl ?_
    refine Seq.val (Runs.extract rfl rfl rfl) rfl rfl rfl ?_
    refine Seq.val (Runs.extract rfl rfl rfl) rfl rfl rfl ?_
    refine Seq.val (Runs.extract rfl rfl rfl) rfl rfl rfl ?_
    refine Seq.val (Runs.assign rfl rfl) rfl rfl rfl ?_
    refine Seq.val (Runs.assign rfl rfl) rfl rfl rfl ?_
    refine Seq.val (Runs.assign rfl rfl) rfl rfl rfl ?_
    refine Seq.nil ?_
    refine Post.weak (F' := [(0, _), (2, _), (7, _), (8, _), (9, _), (12, _), (13, _), (14, _), (49, _)]) ⟨rfl, rfl, rfl, rfl, rfl, rfl, rfl, rfl, rfl, trivial⟩ ?_
    refine Post.then_ ?_
    refine Cd.seq ?_
    refine Cd.seq ?_
    refine Cd.region ?_
    refine Seq.val (Runs.move rfl rfl) rfl rfl rfl ?_
    refine Seq.val (Runs.eqlP rfl rfl rfl Tryz.underlying28) rfl rfl rfl ?_
    refine Seq.val (Runs.move rfl rfl) rfl rfl rfl ?_
    refine SeqC.start ?_
    refine SeqC.open rfl rfl rfl rfl rfl rfl rfl (fun hcx => Runs.move rfl rfl) ?_
    refine SeqC.next rfl rfl rfl rfl rfl rfl rfl (fun hcx => Runs.neqI rfl rfl rfl) ?_
    refine SeqC.or rfl rfl rfl rfl rfl rfl rfl ?_
    refine Seq.nil ?_
    refine Post.weak (F' := [(0, _), (2, _), (7, _), (8, _), (9, _), (12, _), (13, _), (14, _), (49, _), (102, _)]) ⟨rfl, rfl, rfl, rfl, rfl, rfl, rfl, rfl, rfl, rfl, trivial⟩ ?_
    refine Post.then_ ?_
    refine Cd.condF rfl rfl ?_
    refine Cd.skip ?_
    refine Post.then_ ?_
    refine Cd.seq ?_
    refine Cd.region ?_
    refine Seq.val (Runs.move rfl rfl) rfl rfl rfl ?_
    refine Seq.val (Runs.nilCheck rfl rfl) rfl rfl rfl ?_
    refine Seq.val (Runs.fieldB 0 rfl rfl Tryz.underlying59 rfl (by kernel_rfl)) rfl rfl rfl ?_
    refine Seq.val (Runs.loadB rfl rfl Tryz.underlying26 rfl k90 rfl) rfl rfl rfl ?_
    refine Seq.call (Enters.func rfl rfl rfl (run_enter Tryz.func13 (by kernel_rfl) rfl)) rfl rfl rfl (open_any B gd D1 [119] _ gv hgw dk hoffD right_w (byt_one (by omega)) hownD) ?_
    clear dk
    rintro e w7 ⟨v3, v4, rfl, hO2, dk, fw7⟩
    refine ⟨_, rfl, ?_⟩
    replace bf := bf.df fw7
    replace gv := gv.df fw7
    replace k8 := k8.df fw7
    replace k90 := k90.df fw7
    replace own := own.df fw7
    replace own13 := own13.df fw7
    rw [ho2] at hO2 dk
    rw [ho2]
    rcases hO2 with ⟨h, -, -⟩ | ⟨-, g16, rfl, -, -, own16⟩
    · exact absurd rfl h
    replace own16 : Own _ _ 36 2 v4 R.length (recsV R) := own16
    obtain ⟨A16, c16, rfl, -⟩ := own16.reads
    refine Seq.val (Runs.move rfl rfl) rfl rfl rfl ?_
    refine Seq.val (Runs.extract rfl rfl rfl) rfl rfl rfl ?_
    refine Seq.val (Runs.extract rfl rfl rfl) rfl rfl rfl ?_
    refine Seq.val (Runs.extract rfl rfl rfl) rfl rfl rfl ?_
    refine Seq.val (Runs.assign rfl rfl) rfl rfl rfl ?_
    refine Seq.val (Runs.assign rfl rfl) rfl rfl rfl ?_
    refine Seq.val (Runs.assign rfl rfl) rfl rfl rfl ?_
    refine Seq.nil ?_
    refine Post.weak (F' := [(0, _), (2, _), (7, _), (8, _), (9, _), (12, _), (13, _), (14, _), (16, _), (17, _), (49, _), (102, _)]) ⟨rfl, rfl, rfl, rfl, rfl, rfl, rfl, rfl, rfl, rfl, rfl, rfl, trivial⟩ ?_
    refine Post.then_ ?_
    refine Cd.seq ?_
    refine Cd.seq ?_
    refine Cd.region ?_
    refine Seq.val (Runs.move rfl rfl) rfl rfl rfl ?_
    refine Seq.val (Runs.neqI rfl rfl rfl) rfl rfl rfl ?_
    refine Seq.val (Runs.move rfl rfl) rfl rfl rfl ?_
    refine SeqC.start ?_
    refine SeqC.open rfl rfl rfl rfl rfl rfl rfl (fun hcx => Runs.move rfl rfl) ?_
    refine SeqC.next rfl rfl rfl rfl rfl rfl rfl (fun hcx => Runs.move rfl rfl) ?_
    refine SeqC.nextC rfl rfl rfl rfl rfl rfl rfl (fun hcx => Enters.func rfl rfl rfl (run_enter Tryz.func16 (by kernel_rfl) rfl)) (fun hcx => same_self A13 A16 _ c13 _ c16 _ R _ own13.rdsW own16.rdsW (Nat.le_refl _) hRb (by omega) (by omega)) ?_
    intro w8 hw8
    replace bf := bf.step hw8
    replace gv := gv.step hw8
    replace k8 := k8.step hw8
    replace k90 := k90.step hw8
    replace dk := dk.step hw8
    replace own := own.step hw8
    replace own13 := own13.step hw8
    replace own16 := own16.step hw8
    refine SeqC.next rfl rfl rfl rfl rfl rfl rfl (fun hcx => Runs.not rfl rfl) ?_
    refine SeqC.or rfl rfl rfl rfl rfl rfl rfl ?_
    refine Seq.nil ?_
    refine Post.weak (F' := [(0, _), (2, _), (7, _), (8, _), (9, _), (12, _), (13, _), (14, _), (16, _), (17, _), (49, _), (102, _), (119, _)]) ⟨rfl, rfl, rfl, rfl, rfl, rfl, rfl, rfl, rfl, rfl, rfl, rfl, rfl, trivial⟩ ?_
    refine Post.then_ ?_
    refine Cd.condF rfl rfl ?_
    refine Cd.skip ?_
    refine Post.then_ ?_
    refine Cd.seq ?_
    refine Cd.seq ?_
    refine Cd.region ?_
    refine Seq.val (Runs.fieldB 0 rfl rfl Tryz.underlying57 rfl (by kernel_rfl)) rfl rfl rfl ?_
    refine Seq.val (Runs.loadB rfl rfl Tryz.underlying3 rfl k8 rfl) rfl rfl rfl ?_
    refine Seq.val (Runs.eqlI rfl rfl rfl) rfl rfl rfl ?_
    refine Seq.nil ?_
    refine Post.weak (F' := [(0, _), (2, _), (7, _), (8, _), (9, _), (12, _), (13, _), (14, _), (16, _), (17, _), (49, _), (102, _), (119, _), (122, _)]) ⟨rfl, rfl, rfl, rfl, rfl, rfl, rfl, rfl, rfl, rfl, rfl, rfl, rfl, rfl, trivial⟩ ?_
    refine Post.then_ ?_
    clear own16
    refine Cd.cond rfl (fun h => ?_) (fun h => ?_)
    · have h : uk = 2 := by simpa using h
      obtain ⟨hn64, rfl, pre, hpre, hlt⟩ : I64 un_ ∧ more = [] ∧ ∃ pre, L = pre ++ rs ∧ ∀ r ∈ pre, (r.1 : Int) < min un_ (W.num : Int) := by
        rcases hcase with ⟨h2, -⟩ | ⟨-, h3⟩
        · exact absurd h h2
        · exact h3
      rw [List.append_nil, or_self] at hR12
      rw [← hR12] at hpre
      have hLl : L.length = pre.length + R.length := by rw [hpre, List.length_append]
      obtain ⟨lim, hlim⟩ : ∃ lim, lim = min un_ (W.num : Int) := ⟨_, rfl⟩
      rw [← hlim] at hlt
      have hr0 := own.rdsW
      have hr13 := own13.rdsW
      have hd0 := hr0.dropS (c := c0) (j := pre.length) (by omega) own.cap
      rw [recsV_drop _ _ (by omega), show L.drop pre.length = R by rw [hpre]; exact List.drop_left' rfl] at hd0
      have bel := Below.refl w8.heap.size w8
      have own18 := Own.nil w8 w8.heap.size 36 2
      have hBw8 := dk.size
      clear own own13
      refine Cd.seq ?_
      refine Cd.region ?_
      refine Seq.val (Runs.assign rfl rfl) rfl rfl rfl ?_
      refine Seq.nil ?_
      refine Post.weak (F' := [(0, _), (2, _), (7, _), (8, _), (9, _), (12, _), (13, _), (14, _), (16, _), (17, _), (18, _), (49, _), (102, _), (119, _), (122, _)]) ⟨rfl, rfl, rfl, rfl, rfl, rfl, rfl, rfl, rfl, rfl, rfl, rfl, rfl, rfl, rfl, trivial⟩ ?_
      refine Post.then_ ?_
      refine Cd.seq ?_
      refine Cd.seq ?_
      refine Cd.region ?_
      refine Seq.val (Runs.assign rfl rfl) rfl rfl rfl ?_
      refine Seq.nil ?_
      refine Post.weak (F' := [(0, _), (2, _), (7, _), (8, _), (9, _), (12, _), (13, _), (14, _), (16, _), (17, _), (18, _), (19, _), (49, _), (102, _), (119, _), (122, _)]) ⟨rfl, rfl, rfl, rfl, rfl, rfl, rfl, rfl, rfl, rfl, rfl, rfl, rfl, rfl, rfl, rfl, trivial⟩ ?_
      refine Post.then_ ?_
      refine Cd.block ?_
      refine Cd.loop (σ := Nat × Value) (fun q => [(7, .pointer (some ⟨gr, 0, none⟩)), (8, .pointer (some ⟨g8, 0, none⟩)), (13, .slice A13 R.length c13), (18, q.2), (19, .int .i64 (q.1 : Int))]) (fun q wr => q.1 ≤ L.length ∧ Below w8.heap.size w8 wr ∧ Own wr w8.heap.size 36 2 q.2 ((L.take q.1).filter fun r => decide (lim ≤ (r.1 : Int))).length (recsV ((L.take q.1).filter fun r => decide (lim ≤ (r.1 : Int))))) (fun q => L.length - q.1) (0, .slice none 0 0) ⟨Nat.zero_le _, bel, own18⟩ ⟨rfl, rfl, rfl, rfl, rfl, trivial⟩ ?_
      clear bel own18
      rintro ⟨j, v18⟩ wr ⟨hj, bel, own18⟩
      simp only at hj own18
      replace bf := bf.step bel
      replace gv := gv.step bel
      replace k90 := k90.step bel
      replace k8 := k8.step bel
      clear dk
      obtain ⟨A18, c18, rfl, -⟩ := own18.reads
      have hfl18 : ((L.take j).filter fun r => decide (lim ≤ (r.1 : Int))).length ≤ j := Nat.le_trans (List.length_filter_le _ _) (by rw [List.length_take]; omega)
      show Cd _ _ _ _ [(7, .pointer (some ⟨gr, 0, none⟩)), (8, .pointer (some ⟨g8, 0, none⟩)), (13, .slice A13 R.length c13), (18, .slice A18 ((L.take j).filter fun r => decide (lim ≤ (r.1 : Int))).length c18), (19, .int .i64 (j : Int))] _
      refine Cd.seq ?_
      refine Cd.seq ?_
      refine Cd.region ?_
      refine Seq.val (Runs.move rfl rfl) rfl rfl rfl ?_
      refine Seq.val (Runs.move rfl rfl) rfl rfl rfl ?_
      refine Seq.val (Runs.nilCheck rfl rfl) rfl rfl rfl ?_
      refine Seq.val (Runs.fieldB 2 rfl rfl Tryz.underlying59 rfl (by kernel_rfl)) rfl rfl rfl ?_
      refine Seq.val (Runs.loadB rfl rfl Tryz.underlying29 rfl k90 rfl) rfl rfl rfl ?_
      refine Seq.val (Runs.len rfl rfl Tryz.underlying29) rfl rfl rfl ?_
      refine Seq.val (Runs.lss rfl rfl rfl) rfl rfl rfl ?_
      refine Seq.nil ?_
      refine Post.weak (F' := [(7, _), (8, _), (13, _), (18, _), (19, _), (129, _)]) ⟨rfl, rfl, rfl, rfl, rfl, rfl, trivial⟩ ?_
      refine Post.then_ ?_
      refine Cd.condD rfl (fun hc => ?_) (fun hc => ?_)
      · obtain ⟨r, hr⟩ : ∃ r, L[j]? = some r := ⟨_, List.getElem?_eq_getElem (by omega)⟩
        obtain ⟨ad, rfl, -, -, -⟩ := hr0.rec (Below.refl _ _) hr
        have hcell : ∀ wx, Below w8.heap.size w8 wx → ∀ (i : Nat) (u : Value), (recV r)[i]? = some u → wx.cell? ((ad.add (j * 2)).add i) = some u := fun wx hb i u hu => by
          obtain ⟨ad', e, -, -, hcl⟩ := hr0.rec hb hr
          injection e with e
          subst e
          exact hcl i u hu
        have htk : L.take (j + 1) = L.take j ++ [r] := take_last hr
        have hlimW : min un_ (W.num : Int) = lim := hlim.symm
        refine Cd.skip ?_
        refine Post.then_ ?_
        refine Cd.seq ?_
        refine Cd.block ?_
        refine Cd.seq ?_
        refine Cd.draw 16 (by kernel_rfl) [] (.inl rfl) rfl Grow Grow.refl (fun _ _ _ => Grow.trans) ?_
        intro w9 hw9 zw9
        replace bf := bf.step hw9
        replace gv := gv.step hw9
        replace bel := bel.step hw9
        replace own18 := own18.step hw9
        replace k90 := k90.step hw9
        replace k8 := k8.step hw9
        have zbel := bel.size
        have zlt := k8.lt
        refine Dr.val Grow.refl rfl (fun w hG => Runs.move rfl rfl) rfl ?_
        refine Dr.val Grow.refl rfl (fun w hG => Runs.nilCheck rfl rfl) rfl ?_
        refine Dr.val Grow.refl rfl (fun w hG => Runs.fieldB 2 rfl rfl Tryz.underlying59 rfl (by kernel_rfl)) rfl ?_
        refine Dr.val Grow.refl rfl (fun w hG => Runs.loadB rfl rfl Tryz.underlying29 rfl (k90.step hG) rfl) rfl ?_
        refine Dr.val Grow.refl rfl (fun w hG => Runs.move rfl rfl) rfl ?_
        refine Dr.val Grow.refl rfl (fun w hG => Runs.indexN rfl rfl rfl Tryz.underlying29 (s := 2) (by kernel_rfl) (j := j) rfl (by omega)) rfl ?_
        refine Dr.val Grow.refl rfl (fun w hG => Runs.fieldA 0 rfl rfl Tryz.underlying36 rfl (by kernel_rfl)) rfl ?_
        refine Dr.val Grow.refl rfl (fun w hG => Runs.load1 rfl rfl Tryz.underlying3 rfl (hcell w (bel.step hG) 0 _ rfl)) rfl ?_
        refine Dr.val Grow.refl rfl (fun w hG => Runs.fieldB 1 rfl rfl Tryz.underlying57 rfl (by kernel_rfl)) rfl ?_
        refine Dr.val Grow.refl rfl (fun w hG => Runs.loadB rfl rfl Tryz.underlying3 rfl (k8.step hG) rfl) rfl ?_
        refine Dr.val Grow.refl rfl (fun w hG => Runs.move rfl rfl) rfl ?_
        refine Dr.val Grow.refl rfl (fun w hG => Runs.nilCheck rfl rfl) rfl ?_
        refine Dr.val Grow.refl rfl (fun w hG => Runs.fieldB 3 rfl rfl Tryz.underlying59 rfl (by kernel_rfl)) rfl ?_
        refine Dr.val Grow.refl rfl (fun w hG => Runs.loadB rfl rfl Tryz.underlying3 rfl (k90.step hG) rfl) rfl ?_
        refine Dr.val Grow.refl rfl (fun w hG => Runs.min2 rfl rfl rfl) rfl ?_
        refine Dr.val Grow.refl rfl (fun w hG => Runs.geq rfl rfl rfl) rfl ?_
        refine Dr.nil ?_
        refine FinX.done (F' := [(7, _), (8, _), (13, _), (18, _), (19, _), (129, _), (147, _)]) rfl ⟨rfl, rfl, rfl, rfl, rfl, rfl, rfl, trivial⟩ ?_
        intro w10 hw10 fw10
        replace bf := bf.step hw10
        replace gv := gv.step hw10
        replace bel := bel.step hw10
        replace own18 := own18.step hw10
        replace k90 := k90.step hw10
        replace k8 := k8.step hw10
        refine Seq.nil ?_
        refine Post.weak (F' := [(7, _), (8, _), (13, _), (18, _), (19, _), (129, _), (147, _)]) ⟨rfl, rfl, rfl, rfl, rfl, rfl, rfl, trivial⟩ ?_
        refine Post.then_ ?_
        rw [hlimW]
        refine Cd.cond rfl (fun h => ?_) (fun h => ?_)
        · have h : lim ≤ (r.1 : Int) := by simpa using h
          have hF : (L.take (j + 1)).filter (fun r => decide (lim ≤ (r.1 : Int))) = (L.take j).filter (fun r => decide (lim ≤ (r.1 : Int))) ++ [r] := by
            rw [htk, List.filter_append]
            congr 1
            simp [h]
          refine Cd.region ?_
          refine Seq.val (Runs.move rfl rfl) rfl rfl rfl ?_
          refine Seq.val (Runs.move rfl rfl) rfl rfl rfl ?_
          refine Seq.val (Runs.nilCheck rfl rfl) rfl rfl rfl ?_
          refine Seq.val (Runs.fieldB 2 rfl rfl Tryz.underlying59 rfl (by kernel_rfl)) rfl rfl rfl ?_
          refine Seq.val (Runs.loadB rfl rfl Tryz.underlying29 rfl k90 rfl) rfl rfl rfl ?_
          refine Seq.val (Runs.move rfl rfl) rfl rfl rfl ?_
          refine Seq.val (Runs.indexN rfl rfl rfl Tryz.underlying29 (s := 2) (by kernel_rfl) (j := j) rfl (by omega)) rfl rfl rfl ?_
          refine Seq.val (Runs.loadCs rfl rfl Tryz.underlying36 rfl (m := 2) (ps := recV r) (by kernel_rfl) rfl (fun i u hu => hcell _ bel i u hu)) rfl rfl rfl ?_
          refine Seq.slice (vs := [_]) (s := 2) rfl rfl rfl Tryz.underlying29 (by kernel_rfl) (zero_wal_Rec) (by omega) (by omega) ⟨rfl, trivial⟩ rfl rfl rfl ?_
          intro g156 w11 n156
          have e156 := Nat.le_trans bel.size n156.ge
          have l156 := Nat.lt_of_lt_of_le k8.lt n156.ge
          replace bf := bf.step n156.below
          replace gv := gv.step n156.below
          replace bel := bel.step n156.below
          replace own18 := own18.step n156.below
          replace k90 := k90.step n156.below
          replace k8 := k8.step n156.below
          have k156 := n156.blk
          have hrx := Reads.blk (size := 2) k156 1 rfl
          refine Seq.append rfl rfl rfl Tryz.underlying29 (by kernel_rfl) zero_wal_Rec rfl (by decide) (b := 24) (by kernel_rfl) own18 hrx (ones_recV r) bel.size (by simp only [maxLen]; omega) (by omega) rfl rfl rfl ?_
          intro v2 wb own2 ha
          replace bel := bel.trans ha.below
          replace own2 : Own wb w8.heap.size 36 2 v2 (((L.take j).filter fun r => decide (lim ≤ (r.1 : Int))).length + 1) (recsV ((L.take j).filter fun r => decide (lim ≤ (r.1 : Int))) ++ recsV [r]) := own2
          have hFl : ((L.take (j + 1)).filter fun r => decide (lim ≤ (r.1 : Int))).length = ((L.take j).filter fun r => decide (lim ≤ (r.1 : Int))).length + 1 := by rw [hF]; simp
          rw [← recsV_app, ← hF, ← hFl] at own2
          clear own18 k156 hrx ha bf gv k90 k8
          refine Seq.val (Runs.assign rfl rfl) rfl rfl rfl ?_
          refine Seq.nil ?_
          refine Post.weak (F' := [(7, _), (8, _), (13, _), (18, _), (19, _), (129, _), (147, _)]) ⟨rfl, rfl, rfl, rfl, rfl, rfl, rfl, trivial⟩ ?_
          refine Post.block_normal ?_
          refine Post.then_ ?_
          refine Cd.region ?_
          refine Seq.val (Runs.move rfl rfl) rfl rfl rfl ?_
          refine Seq.val (Runs.addI rfl rfl rfl (by omega) (by omega)) rfl rfl rfl ?_
          refine Seq.val (Runs.assign rfl rfl) rfl rfl rfl ?_
          refine Seq.nil ?_
          refine Post.weak (F' := [(7, _), (8, _), (13, _), (18, _), (19, _), (129, _), (147, _)]) ⟨rfl, rfl, rfl, rfl, rfl, rfl, rfl, trivial⟩ ?_
          exact Post.round (j + 1, v2) ⟨rfl, rfl, rfl, rfl, int_at (by omega), trivial⟩ ⟨by simp only; omega, bel, own2⟩ (by simp only; omega)
        · have h : ¬ (lim ≤ (r.1 : Int)) := by simpa using h
          have hF : (L.take (j + 1)).filter (fun r => decide (lim ≤ (r.1 : Int))) = (L.take j).filter (fun r => decide (lim ≤ (r.1 : Int))) := by
            rw [htk, List.filter_append]
            simp [h]
          refine Cd.skip ?_
          refine Post.block_normal ?_
          refine Post.then_ ?_
          refine Cd.region ?_
          refine Seq.val (Runs.move rfl rfl) rfl rfl rfl ?_
          refine Seq.val (Runs.addI rfl rfl rfl (by omega) (by omega)) rfl rfl rfl ?_
          refine Seq.val (Runs.assign rfl rfl) rfl rfl rfl ?_
          refine Seq.nil ?_
          refine Post.weak (F' := [(7, _), (8, _), (13, _), (18, _), (19, _), (129, _), (147, _)]) ⟨rfl, rfl, rfl, rfl, rfl, rfl, rfl, trivial⟩ ?_
          refine Post.round (j + 1, .slice A18 ((L.take j).filter fun r => decide (lim ≤ (r.1 : Int))).length c18) ⟨rfl, rfl, rfl, rfl, int_at (by omega), trivial⟩ ⟨by simp only; omega, bel, ?_⟩ (by simp only; omega)
          simp only
          rw [hF]
          exact own18
      · obtain rfl : j = L.length := by omega
        rw [List.take_length]
        obtain ⟨fl, hfl⟩ : ∃ fl, fl = (L.filter fun r => decide (lim ≤ (r.1 : Int))).length := ⟨_, rfl⟩
        have hfe : fl ≤ R.length := by rw [hfl, hpre]; exact filter_end hlt
        rw [← hfl]
        clear own18
        refine Cd.exit ?_
        refine Post.then_exit ?_
        refine Post.round_exit ?_
        refine Post.block_exit ?_
        refine Post.then_ ?_
        refine Cd.seq ?_
        refine Cd.draw 32 (by kernel_rfl) [] (.inl rfl) rfl Grow Grow.refl (fun _ _ _ => Grow.trans) ?_
        intro w9 hw9 zw9
        replace bf := bf.step hw9
        replace gv := gv.step hw9
        replace bel := bel.step hw9
        replace k90 := k90.step hw9
        replace k8 := k8.step hw9
        have zbel := bel.size
        have zlt := k8.lt
        refine Dr.val Grow.refl rfl (fun w hG => Runs.move rfl rfl) rfl ?_
        refine Dr.val Grow.refl rfl (fun w hG => Runs.len rfl rfl Tryz.underlying29) rfl ?_
        refine Dr.val Grow.refl rfl (fun w hG => Runs.move rfl rfl) rfl ?_
        refine Dr.val Grow.refl rfl (fun w hG => Runs.len rfl rfl Tryz.underlying29) rfl ?_
        refine Dr.val Grow.refl rfl (fun w hG => (Runs.geq rfl rfl rfl).isT ((by omega))) rfl ?_
        refine Dr.val Grow.refl rfl (fun w hG => Runs.move rfl rfl) rfl ?_
        refine Dr.valG Grow.refl rfl (fun w hG => Runs.move rfl rfl) rfl rfl rfl ?_
        refine Dr.valG Grow.refl rfl (fun w hG => Runs.len rfl rfl Tryz.underlying29) rfl rfl rfl ?_
        refine Dr.valG Grow.refl rfl (fun w hG => Runs.move rfl rfl) rfl rfl rfl ?_
        refine Dr.valG Grow.refl rfl (fun w hG => Runs.nilCheck rfl rfl) rfl rfl rfl ?_
        refine Dr.valG Grow.refl rfl (fun w hG => Runs.fieldB 2 rfl rfl Tryz.underlying59 rfl (by kernel_rfl)) rfl rfl rfl ?_
        refine Dr.valG Grow.refl rfl (fun w hG => Runs.loadB rfl rfl Tryz.underlying29 rfl (k90.step hG) rfl) rfl rfl rfl ?_
        refine Dr.valG Grow.refl rfl (fun w hG => Runs.len rfl rfl Tryz.underlying29) rfl rfl rfl ?_
        refine Dr.valG Grow.refl rfl (fun w hG => (Runs.leq rfl rfl rfl).isT ((by omega))) rfl rfl rfl ?_
        refine Dr.val Grow.refl rfl (fun w hG => Runs.pickT rfl rfl rfl) rfl ?_
        refine Dr.val Grow.refl rfl (fun w hG => Runs.move rfl rfl) rfl ?_
        refine Dr.valG Grow.refl rfl (fun w hG => Runs.move rfl rfl) rfl rfl rfl ?_
        refine Dr.valG Grow.refl rfl (fun w hG => Runs.move rfl rfl) rfl rfl rfl ?_
        refine Dr.valG Grow.refl rfl (fun w hG => Runs.nilCheck rfl rfl) rfl rfl rfl ?_
        refine Dr.valG Grow.refl rfl (fun w hG => Runs.fieldB 2 rfl rfl Tryz.underlying59 rfl (by kernel_rfl)) rfl rfl rfl ?_
        refine Dr.valG Grow.refl rfl (fun w hG => Runs.loadB rfl rfl Tryz.underlying29 rfl (k90.step hG) rfl) rfl rfl rfl ?_
        refine Dr.valG Grow.refl rfl (fun w hG => Runs.move rfl rfl) rfl rfl rfl ?_
        refine Dr.valG Grow.refl rfl (fun w hG => Runs.nilCheck rfl rfl) rfl rfl rfl ?_
        refine Dr.valG Grow.refl rfl (fun w hG => Runs.fieldB 2 rfl rfl Tryz.underlying59 rfl (by kernel_rfl)) rfl rfl rfl ?_
        refine Dr.valG Grow.refl rfl (fun w hG => Runs.loadB rfl rfl Tryz.underlying29 rfl (k90.step hG) rfl) rfl rfl rfl ?_
        refine Dr.valG Grow.refl rfl (fun w hG => Runs.len rfl rfl Tryz.underlying29) rfl rfl rfl ?_
        refine Dr.valG Grow.refl rfl (fun w hG => Runs.move rfl rfl) rfl rfl rfl ?_
        refine Dr.valG Grow.refl rfl (fun w hG => Runs.len rfl rfl Tryz.underlying29) rfl rfl rfl ?_
        refine Dr.valG Grow.refl rfl (fun w hG => Runs.subI rfl rfl rfl (by omega) (by omega)) rfl rfl rfl ?_
        refine Dr.valG Grow.refl rfl (fun w hG => (Runs.sliceFN rfl rfl rfl Tryz.underlying29 (s := 2) (by kernel_rfl) (j := pre.length) (by omega) (by omega))) rfl rfl rfl ?_
        refine Dr.callVG rfl (fun w => Enters.func rfl rfl rfl (run_enter Tryz.func16 (by kernel_rfl) rfl)) rfl rfl rfl (fun w hG => same_self A13 _ _ c13 _ _ _ R w (hr13.below (bel.step hG)) (hd0.below (bel.step hG)) (bel.step hG).size hRb (by omega) (by omega)) ?_
        refine Dr.val Grow.refl rfl (fun w hG => Runs.pickT rfl rfl rfl) rfl ?_
        refine Dr.nil ?_
        refine FinX.done (F' := [(7, _), (8, _), (13, _), (18, _), (19, _), (129, _), (189, _)]) rfl ⟨rfl, rfl, rfl, rfl, rfl, rfl, rfl, trivial⟩ ?_
        intro w10 hw10 fw10
        replace bf := bf.step hw10
        replace gv := gv.step hw10
        replace bel := bel.step hw10
        replace k90 := k90.step hw10
        replace k8 := k8.step hw10
        refine Seq.val (Runs.assign rfl rfl) rfl rfl rfl ?_
        refine Seq.nil ?_
        refine Post.weak (F' := [(6, _), (7, _), (8, _), (13, _), (18, _), (19, _), (129, _)]) ⟨rfl, rfl, rfl, rfl, rfl, rfl, rfl, trivial⟩ ?_
        refine Post.then_ ?_
        refine Cd.ret ?_
        refine Post.then_ret ?_
        refine Post.end1 rfl rfl (.inl rfl) ?_
        exact ⟨rfl, done _ bf⟩
    · have h : uk ≠ 2 := by simpa using h
      have hcase2 : R = L ∨ (R = L ++ [(W.num, ud)] ∧ uk = 0 ∧ Byt ud) := by
        rcases hcase with ⟨-, rfl, rfl | ⟨h1, h2, rfl⟩⟩ | ⟨h2, -⟩
        · rw [List.append_nil, or_self] at hR12
          exact .inl hR12
        · rcases hR12 with e | e
          · exact .inl e
          · exact .inr ⟨e, h1, h2⟩
        · exact absurd h2 h
      have htake : R.take L.length = L ∧ L.length ≤ R.length ∧ R.length ≤ L.length + 1 := by
        rcases hcase2 with e | ⟨e, -, -⟩
        · rw [e]
          exact ⟨List.take_length, by omega, by omega⟩
        · rw [e]
          exact ⟨List.take_left' rfl, by rw [List.length_append]; omega, by rw [List.length_append, List.length_singleton]; omega⟩
      obtain ⟨htk, hle1, hle2⟩ := htake
      refine Cd.skip ?_
      refine Post.then_ ?_
      refine Cd.seq ?_
      refine Cd.region ?_
      refine Seq.val (Runs.move rfl rfl) rfl rfl rfl ?_
      refine Seq.val (Runs.len rfl rfl Tryz.underlying29) rfl rfl rfl ?_
      refine Seq.val (Runs.move rfl rfl) rfl rfl rfl ?_
      refine Seq.val (Runs.nilCheck rfl rfl) rfl rfl rfl ?_
      refine Seq.val (Runs.fieldB 2 rfl rfl Tryz.underlying59 rfl (by kernel_rfl)) rfl rfl rfl ?_
      refine Seq.val (Runs.loadB rfl rfl Tryz.underlying29 rfl k90 rfl) rfl rfl rfl ?_
      refine Seq.val (Runs.len rfl rfl Tryz.underlying29) rfl rfl rfl ?_
      refine Seq.val (Runs.subI rfl rfl rfl (by omega) (by omega)) rfl rfl rfl ?_
      refine Seq.val (Runs.assign rfl rfl) rfl rfl rfl ?_
      refine Seq.nil ?_
      refine Post.weak (F' := [(0, _), (2, _), (7, _), (8, _), (9, _), (12, _), (13, _), (14, _), (16, _), (17, _), (20, _), (49, _), (102, _), (119, _), (122, _)]) ⟨rfl, rfl, rfl, rfl, rfl, rfl, rfl, rfl, rfl, rfl, rfl, rfl, rfl, rfl, rfl, trivial⟩ ?_
      refine Post.then_ ?_
      refine Cd.seq ?_
      refine Cd.seq ?_
      refine Cd.draw 21 (by kernel_rfl) [] (.inl rfl) rfl Grow Grow.refl (fun _ _ _ => Grow.trans) ?_
      intro w9 hw9 zw9
      replace bf := bf.step hw9
      replace gv := gv.step hw9
      replace k8 := k8.step hw9
      replace k90 := k90.step hw9
      replace dk := dk.step hw9
      replace own := own.step hw9
      replace own13 := own13.step hw9
      have zlt := k90.lt
      have hr0 := own.rdsW
      have hr13 := own13.rdsW
      have hcap := own13.cap
      have ht13 := hr13.takeS hle1
      rw [recsV_takeS _ _ hle1, htk] at ht13
      refine Dr.val Grow.refl rfl (fun w hG => Runs.move rfl rfl) rfl ?_
      refine Dr.val Grow.refl rfl (fun w hG => (Runs.lss rfl rfl rfl).isF ((by omega))) rfl ?_
      refine Dr.val Grow.refl rfl (fun w hG => Runs.move rfl rfl) rfl ?_
      refine Dr.valG Grow.refl rfl (fun w hG => Runs.move rfl rfl) rfl rfl rfl ?_
      refine Dr.valG Grow.refl rfl (fun w hG => (Runs.gtr rfl rfl rfl).isF ((by omega))) rfl rfl rfl ?_
      refine Dr.val Grow.refl rfl (fun w hG => Runs.pickF rfl rfl rfl) rfl ?_
      refine Dr.val Grow.refl rfl (fun w hG => Runs.move rfl rfl) rfl ?_
      refine Dr.valG Grow.refl rfl (fun w hG => Runs.move rfl rfl) rfl rfl rfl ?_
      refine Dr.valG Grow.refl rfl (fun w hG => Runs.move rfl rfl) rfl rfl rfl ?_
      refine Dr.valG Grow.refl rfl (fun w hG => Runs.nilCheck rfl rfl) rfl rfl rfl ?_
      refine Dr.valG Grow.refl rfl (fun w hG => Runs.fieldB 2 rfl rfl Tryz.underlying59 rfl (by kernel_rfl)) rfl rfl rfl ?_
      refine Dr.valG Grow.refl rfl (fun w hG => Runs.loadB rfl rfl Tryz.underlying29 rfl (k90.step hG) rfl) rfl rfl rfl ?_
      refine Dr.valG Grow.refl rfl (fun w hG => Runs.len rfl rfl Tryz.underlying29) rfl rfl rfl ?_
      refine Dr.valG Grow.refl rfl (fun w hG => (Runs.sliceN rfl rfl rfl Tryz.underlying29 (s := 2) (by kernel_rfl) (j := L.length) rfl (by omega))) rfl rfl rfl ?_
      refine Dr.valG Grow.refl rfl (fun w hG => Runs.move rfl rfl) rfl rfl rfl ?_
      refine Dr.valG Grow.refl rfl (fun w hG => Runs.nilCheck rfl rfl) rfl rfl rfl ?_
      refine Dr.valG Grow.refl rfl (fun w hG => Runs.fieldB 2 rfl rfl Tryz.underlying59 rfl (by kernel_rfl)) rfl rfl rfl ?_
      refine Dr.valG Grow.refl rfl (fun w hG => Runs.loadB rfl rfl Tryz.underlying29 rfl (k90.step hG) rfl) rfl rfl rfl ?_
      refine Dr.callVG rfl (fun w => Enters.func rfl rfl rfl (run_enter Tryz.func16 (by kernel_rfl) rfl)) rfl rfl rfl (fun w hG => same_self A13 A0 _ c13 _ c0 _ L w (ht13.below hG) (hr0.below hG) hG.size hrb (by omega) (by omega)) ?_
      refine Dr.valG Grow.refl rfl (fun w hG => Runs.not rfl rfl) rfl rfl rfl ?_
      refine Dr.val Grow.refl rfl (fun w hG => Runs.pickF rfl rfl rfl) rfl ?_
      refine Dr.nil ?_
      refine FinX.done (F' := [(0, _), (2, _), (7, _), (8, _), (9, _), (12, _), (13, _), (14, _), (16, _), (17, _), (20, _), (49, _), (102, _), (119, _), (122, _), (218, _)]) rfl ⟨rfl, rfl, rfl, rfl, rfl, rfl, rfl, rfl, rfl, rfl, rfl, rfl, rfl, rfl, rfl, rfl, trivial⟩ ?_
      intro w10 hw10 fw10
      replace bf := bf.step hw10
      replace gv := gv.step hw10
      replace k8 := k8.step hw10
      replace k90 := k90.step hw10
      replace dk := dk.step hw10
      replace own := own.step hw10
      replace own13 := own13.step hw10
      refine Seq.nil ?_
      refine Post.weak (F' := [(0, _), (2, _), (7, _), (8, _), (9, _), (12, _), (13, _), (14, _), (16, _), (17, _), (20, _), (49, _), (102, _), (119, _), (122, _), (218, _)]) ⟨rfl, rfl, rfl, rfl, rfl, rfl, rfl, rfl, rfl, rfl, rfl, rfl, rfl, rfl, rfl, rfl, trivial⟩ ?_
      refine Post.then_ ?_
      refine Cd.condF rfl rfl ?_
      refine Cd.skip ?_
      refine Post.then_ ?_
      refine Cd.seq ?_
      rcases hcase2 with hRe | ⟨hRe, hk0, hud⟩
      · have hl2 : R.length = L.length := by rw [hRe]
        refine Cd.draw 21 (by kernel_rfl) [] (.inl rfl) rfl Grow Grow.refl (fun _ _ _ => Grow.trans) ?_
        intro w11 hw11 zw11
        replace bf := bf.step hw11
        replace gv := gv.step hw11
        replace k8 := k8.step hw11
        replace k90 := k90.step hw11
        replace dk := dk.step hw11
        replace own := own.step hw11
        replace own13 := own13.step hw11
        have zlt := k90.lt
        refine Dr.val Grow.refl rfl (fun w hG => Runs.move rfl rfl) rfl ?_
        refine Dr.val Grow.refl rfl (fun w hG => (Runs.eqlI rfl rfl rfl).isT ((by omega))) rfl ?_
        refine Dr.val Grow.refl rfl (fun w hG => Runs.move rfl rfl) rfl ?_
        refine Dr.skip rfl rfl rfl rfl rfl ?_
        refine Dr.skip rfl rfl rfl rfl rfl ?_
        refine Dr.skip rfl rfl rfl rfl rfl ?_
        refine Dr.skip rfl rfl rfl rfl rfl ?_
        refine Dr.skipU rfl rfl rfl rfl ?_
        refine Dr.skipU rfl rfl rfl rfl ?_
        refine Dr.skipU rfl rfl rfl rfl ?_
        refine Dr.skipU rfl rfl rfl rfl ?_
        refine Dr.skipU rfl rfl rfl rfl ?_
        refine Dr.skipU rfl rfl rfl rfl ?_
        refine Dr.skipU rfl rfl rfl rfl ?_
        refine Dr.skipU rfl rfl rfl rfl ?_
        refine Dr.skipU rfl rfl rfl rfl ?_
        refine Dr.skipU rfl rfl rfl rfl ?_
        refine Dr.skipU rfl rfl rfl rfl ?_
        refine Dr.skipU rfl rfl rfl rfl ?_
        refine Dr.skip rfl rfl rfl rfl rfl ?_
        refine Dr.val Grow.refl rfl (fun w hG => Runs.pickT rfl rfl rfl) rfl ?_
        refine Dr.nil ?_
        refine FinX.done (F' := [(0, _), (2, _), (7, _), (8, _), (9, _), (12, _), (13, _), (14, _), (16, _), (17, _), (20, _), (49, _), (102, _), (119, _), (122, _), (218, _), (239, _)]) rfl ⟨rfl, rfl, rfl, rfl, rfl, rfl, rfl, rfl, rfl, rfl, rfl, rfl, rfl, rfl, rfl, rfl, rfl, trivial⟩ ?_
        intro w12 hw12 fw12
        replace bf := bf.step hw12
        replace gv := gv.step hw12
        replace k8 := k8.step hw12
        replace k90 := k90.step hw12
        replace dk := dk.step hw12
        replace own := own.step hw12
        replace own13 := own13.step hw12
        refine Seq.val (Runs.assign rfl rfl) rfl rfl rfl ?_
        refine Seq.nil ?_
        refine Post.weak (F' := [(0, _), (2, _), (6, _), (7, _), (8, _), (9, _), (12, _), (13, _), (14, _), (16, _), (17, _), (20, _), (49, _), (102, _), (119, _), (122, _), (218, _)]) ⟨rfl, rfl, rfl, rfl, rfl, rfl, rfl, rfl, rfl, rfl, rfl, rfl, rfl, rfl, rfl, rfl, rfl, trivial⟩ ?_
        refine Post.then_ ?_
        refine Cd.ret ?_
        refine Post.end1 rfl rfl (.inl rfl) ?_
        exact ⟨rfl, done _ bf⟩
      · have hl2 : R.length = L.length + 1 := by rw [hRe, List.length_append, List.length_singleton]
        have hRi : R[L.length]? = some (W.num, ud) := by rw [hRe, List.getElem?_append_right (Nat.le_refl _), Nat.sub_self]; rfl
        refine Cd.draw 21 (by kernel_rfl) [] (.inl rfl) rfl Grow Grow.refl (fun _ _ _ => Grow.trans) ?_
        intro w11 hw11 zw11
        replace bf := bf.step hw11
        replace gv := gv.step hw11
        replace k8 := k8.step hw11
        replace k90 := k90.step hw11
        replace dk := dk.step hw11
        replace own := own.step hw11
        replace own13 := own13.step hw11
        have zlt := k90.lt
        replace hr13 := own13.rdsW
        obtain ⟨ad, rfl, -, -, -⟩ := hr13.rec (Below.refl _ _) hRi
        refine Dr.val Grow.refl rfl (fun w hG => Runs.move rfl rfl) rfl ?_
        refine Dr.val Grow.refl rfl (fun w hG => (Runs.eqlI rfl rfl rfl).isF ((by omega))) rfl ?_
        refine Dr.val Grow.refl rfl (fun w hG => Runs.move rfl rfl) rfl ?_
        refine Dr.valG Grow.refl rfl (fun w hG => Runs.fieldB 0 rfl rfl Tryz.underlying57 rfl (by kernel_rfl)) rfl rfl rfl ?_
        refine Dr.valG Grow.refl rfl (fun w hG => Runs.loadB rfl rfl Tryz.underlying3 rfl (k8.step hG) rfl) rfl rfl rfl ?_
        refine Dr.valG Grow.refl rfl (fun w hG => (Runs.eqlI rfl rfl rfl).isT (hk0)) rfl rfl rfl ?_
        refine Dr.valG Grow.refl rfl (fun w hG => Runs.move rfl rfl) rfl rfl rfl ?_
        refine Dr.valG Grow.refl rfl (fun w hG => Runs.move rfl rfl) rfl rfl rfl ?_
        refine Dr.valG Grow.refl rfl (fun w hG => Runs.move rfl rfl) rfl rfl rfl ?_
        refine Dr.valG Grow.refl rfl (fun w hG => Runs.nilCheck rfl rfl) rfl rfl rfl ?_
        refine Dr.valG Grow.refl rfl (fun w hG => Runs.fieldB 2 rfl rfl Tryz.underlying59 rfl (by kernel_rfl)) rfl rfl rfl ?_
        refine Dr.valG Grow.refl rfl (fun w hG => Runs.loadB rfl rfl Tryz.underlying29 rfl (k90.step hG) rfl) rfl rfl rfl ?_
        refine Dr.valG Grow.refl rfl (fun w hG => Runs.len rfl rfl Tryz.underlying29) rfl rfl rfl ?_
        refine Dr.valG Grow.refl rfl (fun w hG => (Runs.indexN rfl rfl rfl Tryz.underlying29 (s := 2) (by kernel_rfl) (j := L.length) rfl (by omega))) rfl rfl rfl ?_
        refine Dr.valG Grow.refl rfl (fun w hG => Runs.fieldA 1 rfl rfl Tryz.underlying36 rfl (by kernel_rfl)) rfl rfl rfl ?_
        refine Dr.valG Grow.refl rfl (fun w hG => (Runs.load1 rfl rfl Tryz.underlying9 rfl (rec_cell hr13 hG hRi 1 _ rfl))) rfl rfl rfl ?_
        refine Dr.valG Grow.refl rfl (fun w hG => Runs.fieldB 2 rfl rfl Tryz.underlying57 rfl (by kernel_rfl)) rfl rfl rfl ?_
        refine Dr.valG Grow.refl rfl (fun w hG => Runs.loadB rfl rfl Tryz.underlying9 rfl (k8.step hG) rfl) rfl rfl rfl ?_
        refine Dr.valG Grow.refl rfl (fun w hG => ((Runs.eqlL (a := ud) (b := ud) rfl rfl rfl hud hud).isT rfl)) rfl rfl rfl ?_
        refine Dr.valG Grow.refl rfl (fun w hG => Runs.pickT rfl rfl rfl) rfl rfl rfl ?_
        refine Dr.val Grow.refl rfl (fun w hG => Runs.pickF rfl rfl rfl) rfl ?_
        refine Dr.nil ?_
        refine FinX.done (F' := [(0, _), (2, _), (7, _), (8, _), (9, _), (12, _), (13, _), (14, _), (16, _), (17, _), (20, _), (49, _), (102, _), (119, _), (122, _), (218, _), (239, _)]) rfl ⟨rfl, rfl, rfl, rfl, rfl, rfl, rfl, rfl, rfl, rfl, rfl, rfl, rfl, rfl, rfl, rfl, rfl, trivial⟩ ?_
        intro w12 hw12 fw12
        replace bf := bf.step hw12
        replace gv := gv.step hw12
        replace k8 := k8.step hw12
        replace k90 := k90.step hw12
        replace dk := dk.step hw12
        replace own := own.step hw12
        replace own13 := own13.step hw12
        refine Seq.val (Runs.assign rfl rfl) rfl rfl rfl ?_
        refine Seq.nil ?_
        refine Post.weak (F' := [(0, _), (2, _), (6, _), (7, _), (8, _), (9, _), (12, _), (13, _), (14, _), (16, _), (17, _), (20, _), (49, _), (102, _), (119, _), (122, _), (218, _)]) ⟨rfl, rfl, rfl, rfl, rfl, rfl, rfl, rfl, rfl, rfl, rfl, rfl, rfl, rfl, rfl, rfl, rfl, trivial⟩ ?_
        refine Post.then_ ?_
        refine Cd.ret ?_
        refine Post.end1 rfl rfl (.inl rfl) ?_
        exact ⟨rfl, done _ bf⟩
end Go.Proofs.YtnlepoplncjliaaGreatDoor

namespace Go.Proofs.YtnlepoplncjliaaGreatDoor
open Go.ChangeShapes Go.WideShapes Go.Deep Go.RowKit

set_option maxRecDepth 100000 in
theorem open_int {W : World} {base t : Nat} {v : Value} {k : IntKind} (hu : Tryz.prog.underlying t = some (.int k)) (hv : Value.okWide Tryz.prog W .any base t v) : ∃ n, v = .int k n ∧ k.has n := by
  obtain ⟨n, rfl⟩ := okWide_int hu hv
  simp only [Value.okWide, hu, Cell.okWide] at hv
  exact ⟨n, rfl, by simpa [Cell.ok, hu] using hv⟩
set_option maxRecDepth 100000 in
theorem open_i64 {W : World} {base t : Nat} {v : Value} (hu : Tryz.prog.underlying t = some (.int .i64)) (hv : Value.okWide Tryz.prog W .any base t v) : ∃ n, v = .int .i64 n ∧ I64 n := by
  obtain ⟨n, rfl, h⟩ := open_int hu hv
  exact ⟨n, rfl, h.1, h.2⟩
end Go.Proofs.YtnlepoplncjliaaGreatDoor

namespace Go.Proofs.YtnlepoplncjliaaGreatDoor
open Go.ChangeShapes Go.WideShapes Go.ChangeAt Go.Deep Go.RowKit

theorem laid_tail {P : Program} {W : World} {x : String × DataW Unit} {rest : List (String × DataW Unit)} (h : laidMet P (x :: rest) W) : laidMet P rest W := by
  obtain ⟨ps, ⟨g, t, cs, fuel, p, q, h1, h2, h3, h4, h5, rfl⟩, hn, hi⟩ := h
  exact ⟨q, h5, (List.nodup_append.1 hn).2.1, fun b off hm => hi b off (List.mem_append_right _ hm)⟩
def laidL : List (String × DataW Unit) := Rows.walFullRow.laid
theorem gv_of_laid {W : World} (h : laidMetH Tryz.prog laidL W) (hs : W.ShapedOpen Tryz.prog) : Gv W := by
  rw [MakeChecks.laidMetH_plain _ _ _ (by kernel_rfl)] at h
  have h3 := laid_tail (laid_tail (show laidMet Tryz.prog (_ :: _ :: _) W from h))
  have tn : Lib.TabIs Tryz.prog W "debenture/crc.nibbles" .u32 (nibs.map Int.ofNat) := Lib.tabIs_of_head (rest := _) (g := 3) (by kernel_rfl) (by kernel_rfl) Tryz.underlying195 Tryz.underlying65 (by kernel_rfl) (by kernel_rfl) h3
  have tp : Lib.TabIs Tryz.prog W "internal/strconv.uint64pow10" .u64 Lib.pow10Tab := Lib.tabIs_of_head (rest := _) (g := 4) (by kernel_rfl) (by kernel_rfl) Tryz.underlying214 Tryz.underlying97 (by kernel_rfl) (by kernel_rfl) (laid_tail h3)
  refine ⟨⟨fun i hi => ?_⟩, tp, cell_of_shapedOpen_int (t := 3) (zero := #[.int .i64 0]) hs (of_decide_eq_true (by kernel_rfl)) (by kernel_rfl) rfl (by kernel_rfl) (by kernel_rfl) Tryz.underlying3⟩
  rw [tn.cell (g := 3) (by kernel_rfl) i (by rw [List.length_map]; exact hi)]
  congr 2
  have : ∀ i, i < 16 → (nibs.map Int.ofNat).getD i 0 = ((nibs.getD i 0 : Nat) : Int) := by decide
  exact this i hi
theorem choose_at {α : Type} (n : Nat) (p : Nat → α → Prop) (h : ∀ i, i < n → ∃ f, p i f) : ∃ l : List α, l.length = n ∧ ∀ i f, l[i]? = some f → p i f := by
  induction n with
  | zero => exact ⟨[], rfl, fun i f hf => by simp at hf⟩
  | succ n ih =>
    obtain ⟨l, hl, hp⟩ := ih fun i hi => h i (by omega)
    obtain ⟨x, hx⟩ := h n (by omega)
    refine ⟨l ++ [x], by simp [hl], fun i f hf => ?_⟩
    rcases Nat.lt_or_ge i l.length with h1 | h1
    · rw [List.getElem?_append_left h1] at hf
      exact hp i f hf
    · rw [List.getElem?_append_right h1] at hf
      have h2 : i - l.length = 0 := by
        rcases Nat.eq_zero_or_pos (i - l.length) with h2 | h2
        · exact h2
        · rw [List.getElem?_eq_none (by simp; omega)] at hf; cases hf
      rw [h2] at hf
      injection hf with hf
      subst hf
      have : i = n := by omega
      subst this
      exact hx
theorem strOf_of (s : ByteArray) : ∃ l : List Nat, s = strOf l ∧ Byt l ∧ l.length = s.size := by
  refine ⟨s.data.toList.map UInt8.toNat, ?_, fun c hc => ?_, by rw [List.length_map]; rfl⟩
  · have : (s.data.toList.map UInt8.toNat).map UInt8.ofNat = s.data.toList := by
      rw [List.map_map]
      conv => rhs; rw [← List.map_id s.data.toList]
      exact List.map_congr_left fun b _ => by simp
    unfold strOf
    rw [this]
  · obtain ⟨b, -, rfl⟩ := List.mem_map.1 hc
    exact b.toNat_lt
/-- The wrap for rows that list variables, with what the world's shape says handed on. -/
theorem lift_laid {H : Type} {enc : TypeId × Value → H} {a : Assume} {C : Checked} {os : Os} {f : FuncId} {fn : Func} {s : ChangeSpec} {X : World → Array Value → Prop} {apart fresh handsOn again : Bool}
    (hX : ∀ (w w' : World) (args : Array Value), w.heap = w'.heap → X w args → X w' args) (own : ownKnob C.prog.godebug = none) (started : os.Started) (hi : C.prog.inits.idxOf? f = none) (hfn : C.prog.funcs[f]? = some fn)
    (wit : ∃ (w : World) (tape : Tape) (i : Input), w.os = os ∧ (w.forCall tape i).Shaped C.prog ∧ i.vars = [] ∧ Input.okWide C.prog (w.forCall tape i) .any w.heap.size f i ∧
      ((s.pre enc C.prog fn [] apart (w.forCall tape i).memory i.args ∧ X (w.forCall tape i).memory i.args) ∧ sizedMet enc C.prog fn (OpenSpec.ofChange s) apart (w.forCall tape i).memory i.args) ∧ a.holds C.prog (lone (Frame.enter C.prog f i.args .normal) [] (w.forCall tape i)))
    (walk : ∀ (W : World) (base : Nat) (args : Array Value) (ds gs : List (DataW H)) (before : List MemPlace), (∀ (j : Nat) t v, fn.params[j]? = some t → args[j]? = some v → Value.okWide C.prog W .any base t v) →
      DataW.Whole enc C.prog fn.params.toList s.vars apart W args.toList ds gs before → X W args → W.ShapedOpen C.prog →
      Calls C.prog f args W fun e W' => ∃ v, e = .returned v ∧ s.post enc C.prog fn apart fresh handsOn again W args v W') :
    ReturnsInHanded a C os f .any (fun w args => (s.pre enc C.prog fn [] apart w args ∧ X w args) ∧ sizedMet enc C.prog fn (OpenSpec.ofChange s) apart w args) (s.post enc C.prog fn apart fresh handsOn again) := by
  refine returnsInHanded_of_calls own started hi wit fun w tape i _ hsh _ hok hp _ => ?_
  obtain ⟨⟨⟨ds, gs, before, hw, -⟩, hx⟩, -⟩ := hp
  obtain ⟨_, _, _, fn', hfn', _, _, _, _, hval⟩ := hok
  obtain rfl : fn' = fn := Option.some.inj (hfn'.symm.trans hfn)
  refine (walk _ _ _ ds gs before hval (DataW.Whole.of_heap (by rfl) hw) (hX _ _ _ (by rfl) hx) hsh).mono fun e W' he => ?_
  obtain ⟨v, rfl, hp⟩ := he
  exact ChangeSpec.post_blind hp
theorem own : ownKnob Tryz.prog.godebug = none := by kernel_rfl
theorem laidOut : laidOutB Tryz.prog = true := by kernel_rfl
theorem door_met (os : Os) (args : Array Value) : laidMetH Tryz.prog laidL ((World.doorLaid Tryz.prog 67 os).forCall (fun _ _ => 0) ⟨#[], args, []⟩).memory :=
  laidMetH_of_parts3 (fuel := 8) (laidMet_of_run' 8 (by kernel_rfl) (by kernel_rfl)) (by kernel_rfl) (by kernel_rfl)
end Go.Proofs.YtnlepoplncjliaaGreatDoor

namespace Go.Proofs.YtnlepoplncjliaaGreatDoor
open Go.ChangeShapes Go.WideShapes Go.Deep Go.RowKit

section
variable {H : Type} {enc : TypeId × Value → H} {P : Program} {w : World} {base : Nat} {spare : Nat → Bool} {held : Bool}
theorem open_slice_fields {t e : TypeId} {fs : Array Field} {fuel : Nat} {cs : List Value} {x : DataW H × List MemPlace} (ht : P.underlying t = some (.slice e)) (he : P.underlying e = some (.struct fs))
    (hone : oneCellFields P fs = true) (hC : P.cellsOf e = fs.size) (h : DataW.trod enc P w base spare held fuel t cs = some x) :
    (cs = [.slice none 0 0] ∧ x = (.nil, [])) ∨
    ∃ (a : Addr) (len cap m : Nat) (D : Nat → DataW H) (Pl : Nat → List MemPlace), cs = [.slice (some a) len cap] ∧ base ≤ a.block ∧ len ≤ cap ∧ cap ≤ maxLen ∧ m = (if spare a.block then cap else len) ∧
      x = (.slice ((List.range len).map D) ((List.range (m - len)).map fun j => D (len + j)), MemPlace.row a (m * fs.size) ++ (List.range m).flatMap Pl) ∧
      ∀ i, i < m → ∃ (ys : List (DataW H × List MemPlace)) (n : Nat), D i = .agg (ys.map (·.1)) ∧ Pl i = ys.flatMap (·.2) ∧ ys.length = fs.size ∧
        ∀ (j : Nat) (f : Field), fs[j]? = some f → ∃ (v : Value) (y : DataW H × List MemPlace), w.cell? (a.add (i * fs.size + j)) = some v ∧ ys[j]? = some y ∧ DataW.trod enc P w base spare held n f.type [v] = some y := by
  rcases open_slice ht h with h0 | ⟨a, len, cap, m, n, D, Pl, hcs, hb, hl, hm, hmm, hx, hi⟩
  · exact .inl h0
  · refine .inr ⟨a, len, cap, m, D, Pl, hcs, hb, hl, hm, hmm, by rw [hC] at hx; exact hx, fun i him => ?_⟩
    obtain ⟨cs', hc, ht'⟩ := hi i him
    rw [hC] at hc
    obtain ⟨ys, n', hn', hy, hlen, hyl, hf⟩ := DataW.trod_struct he ht'
    obtain ⟨_, hcl, hat⟩ := World.cells?_some hc
    simp only [Prod.mk.injEq] at hy
    refine ⟨ys, n', hy.1, hy.2, hyl, fun j f hj => ?_⟩
    obtain ⟨ho, hk⟩ := hone_of hone j f hj
    have hjl : j < fs.size := (Array.getElem?_eq_some_iff.1 hj).1
    have hcell := hat j hjl
    have hv : cs'[j]? = some (cs'[j]'(by omega)) := List.getElem?_eq_getElem (by omega)
    have h1 := hf j f hj
    rw [ho, hk] at h1
    have hone' : (cs'.drop j).take 1 = [cs'[j]'(by omega)] := by
      rw [List.drop_eq_getElem_cons (by omega)]
      rfl
    rw [hone'] at h1
    have hys : ys[j]? = some (ys[j]'(by omega)) := List.getElem?_eq_getElem (by omega)
    refine ⟨_, _, ?_, hys, h1.trans hys⟩
    rw [← Go.Deep.add_add, hcell, hv]
end

end Go.Proofs.YtnlepoplncjliaaGreatDoor

namespace Go.Proofs.YtnlepoplncjliaaGreatDoor
open Go.ChangeShapes Go.WideShapes Go.Deep Go.RowKit

set_option maxRecDepth 100000 in
theorem open_acts2 {H : Type} {enc : TypeId × Value → H} {W : World} {base : Nat} {v : Value} {d : DataW H} {p : List MemPlace} (hv : Value.okWide Tryz.prog W .any base 50 v)
    (h : DataW.Trod enc Tryz.prog W 0 (fun _ => true) true 50 v d p) : ∃ A len cap l, v = .slice A len cap ∧ Reads W W.heap.size 3 A len (acsV l) ∧ ∀ a ∈ l, Byt a.data ∧ I64 a.n ∧ I64 a.kind := by
  obtain ⟨A, len, cap, rfl⟩ := okWide_slice Tryz.underlying50 hv
  obtain ⟨m, hm⟩ := h
  rcases open_slice_fields Tryz.underlying50 Tryz.underlying57 (by kernel_rfl) (by kernel_rfl) hm with ⟨hcs, -⟩ | ⟨a, len', cap', k, D, Pl, hcs, -, hlc, -, hk, -, hf⟩
  · simp [Value.cells] at hcs
    obtain ⟨rfl, rfl, rfl⟩ := hcs
    exact ⟨none, 0, 0, [], rfl, Reads.none_, by simp⟩
  · simp only [if_true] at hk
    simp [Value.cells] at hcs
    obtain ⟨rfl, rfl, rfl⟩ := hcs
    obtain ⟨l, hl, hp⟩ := choose_at (α := ActV) len (fun i f => (Byt f.data ∧ I64 f.n ∧ I64 f.kind) ∧ ∀ j u, f.cs[j]? = some u → W.cell? (a.add (i * 3 + j)) = some u) fun i hi => by
      obtain ⟨ys, n, -, -, hyl, hfj⟩ := hf i (by omega)
      obtain ⟨v0, z0, k0, -, t0⟩ := hfj 0 _ rfl
      obtain ⟨v1, z1, k1, -, t1⟩ := hfj 1 _ rfl
      obtain ⟨v2, z2, k2, -, t2⟩ := hfj 2 _ rfl
      obtain ⟨x0, e0, -, hw0⟩ := DataW.trod_int Tryz.underlying3 t0
      obtain ⟨x1, e1, -, hwf⟩ := DataW.trod_int Tryz.underlying3 t1
      obtain ⟨x2, e2, -⟩ := DataW.trod_string Tryz.underlying9 t2
      simp at e0 e1 e2
      subst e0 e1 e2
      obtain ⟨s, rfl, hs, -⟩ := strOf_of x2
      simp only [Lit.wf, Bool.and_eq_true, decide_eq_true_eq] at hwf hw0
      refine ⟨⟨x0, x1, s⟩, ⟨hs, ⟨hwf.1, hwf.2⟩, hw0.1, hw0.2⟩, fun j u hu => ?_⟩
      match j, hu with
      | 0, hu => simp [ActV.cs] at hu; subst hu; exact k0
      | 1, hu => simp [ActV.cs] at hu; subst hu; exact k1
      | 2, hu => simp [ActV.cs] at hu; subst hu; exact k2
      | j + 3, hu => simp [ActV.cs] at hu
    refine ⟨some a, len, cap, l, rfl, ⟨by rw [acsV_len, hl], fun hpos => ⟨a, rfl, ?_, fun j u hu => ?_⟩⟩, fun x hx => ?_⟩
    · obtain ⟨f, hf0⟩ : ∃ f, l[0]? = some f := ⟨_, List.getElem?_eq_getElem (by omega)⟩
      have := World.block_lt_of_cell? W _ ((hp 0 f hf0).2 0 _ rfl)
      rwa [block_of_add] at this
    · have hj : j < len * 3 := by have := (List.getElem?_eq_some_iff.1 hu).1; rw [acsV_len, hl] at this; exact this
      have hi : j / 3 < l.length := by omega
      obtain ⟨f, hf0⟩ : ∃ f, l[j / 3]? = some f := ⟨_, List.getElem?_eq_getElem hi⟩
      have hj3 : j % 3 < f.cs.length := by show j % 3 < 3; omega
      have hg := acsV_at hf0 (j % 3) _ (List.getElem?_eq_getElem hj3)
      rw [show j / 3 * 3 + j % 3 = j by omega, hu] at hg
      have := (hp (j / 3) f hf0).2 (j % 3) u (by rw [List.getElem?_eq_getElem hj3, ← hg])
      rwa [show j / 3 * 3 + j % 3 = j by omega] at this
    · obtain ⟨j, hj, rfl⟩ := List.getElem_of_mem hx
      exact (hp j _ (List.getElem?_eq_getElem hj)).1
set_option maxRecDepth 100000 in
theorem open_keeps {H : Type} {enc : TypeId × Value → H} {W : World} {base : Nat} {v : Value} {d : DataW H} {p : List MemPlace} (hv : Value.okWide Tryz.prog W .any base 71 v)
    (h : DataW.Trod enc Tryz.prog W 0 (fun _ => true) true 71 v d p) : ∃ A len cap l, v = .slice A len cap ∧ Reads W W.heap.size 2 A len (kpsV l) ∧ ∀ t ∈ l, I64 t.1 ∧ I64 t.2 := by
  obtain ⟨A, len, cap, rfl⟩ := okWide_slice Tryz.underlying71 hv
  obtain ⟨m, hm⟩ := h
  rcases open_slice_fields Tryz.underlying71 Tryz.underlying106 (by kernel_rfl) (by kernel_rfl) hm with ⟨hcs, -⟩ | ⟨a, len', cap', k, D, Pl, hcs, -, hlc, -, hk, -, hf⟩
  · simp [Value.cells] at hcs
    obtain ⟨rfl, rfl, rfl⟩ := hcs
    exact ⟨none, 0, 0, [], rfl, Reads.none_, by simp⟩
  · simp only [if_true] at hk
    simp [Value.cells] at hcs
    obtain ⟨rfl, rfl, rfl⟩ := hcs
    obtain ⟨l, hl, hp⟩ := choose_at (α := Int × Int) len (fun i f => (I64 f.1 ∧ I64 f.2) ∧ ∀ j u, (kpCs f)[j]? = some u → W.cell? (a.add (i * 2 + j)) = some u) fun i hi => by
      obtain ⟨ys, n, -, -, hyl, hfj⟩ := hf i (by omega)
      obtain ⟨v0, z0, k0, -, t0⟩ := hfj 0 _ rfl
      obtain ⟨v1, z1, k1, -, t1⟩ := hfj 1 _ rfl
      obtain ⟨x0, e0, -, hw0⟩ := DataW.trod_int Tryz.underlying3 t0
      obtain ⟨x1, e1, -, hw1⟩ := DataW.trod_int Tryz.underlying3 t1
      simp at e0 e1
      subst e0 e1
      simp only [Lit.wf, Bool.and_eq_true, decide_eq_true_eq] at hw0 hw1
      refine ⟨(x0, x1), ⟨⟨hw0.1, hw0.2⟩, hw1.1, hw1.2⟩, fun j u hu => ?_⟩
      match j, hu with
      | 0, hu => simp [kpCs] at hu; subst hu; exact k0
      | 1, hu => simp [kpCs] at hu; subst hu; exact k1
      | j + 2, hu => simp [kpCs] at hu
    refine ⟨some a, len, cap, l, rfl, ⟨by rw [kpsV_len, hl], fun hpos => ⟨a, rfl, ?_, fun j u hu => ?_⟩⟩, fun x hx => ?_⟩
    · obtain ⟨f, hf0⟩ : ∃ f, l[0]? = some f := ⟨_, List.getElem?_eq_getElem (by omega)⟩
      have := World.block_lt_of_cell? W _ ((hp 0 f hf0).2 0 _ rfl)
      rwa [block_of_add] at this
    · have hj : j < len * 2 := by have := (List.getElem?_eq_some_iff.1 hu).1; rw [kpsV_len, hl] at this; exact this
      have hi : j / 2 < l.length := by omega
      obtain ⟨f, hf0⟩ : ∃ f, l[j / 2]? = some f := ⟨_, List.getElem?_eq_getElem hi⟩
      have hj3 : j % 2 < (kpCs f).length := by show j % 2 < 2; omega
      have hg := kpsV_at hf0 (j % 2) _ (List.getElem?_eq_getElem hj3)
      rw [show j / 2 * 2 + j % 2 = j by omega, hu] at hg
      have := (hp (j / 2) f hf0).2 (j % 2) u (by rw [List.getElem?_eq_getElem hj3, ← hg])
      rwa [show j / 2 * 2 + j % 2 = j by omega] at this
    · obtain ⟨j, hj, rfl⟩ := List.getElem_of_mem hx
      exact (hp j _ (List.getElem?_eq_getElem hj)).1
end Go.Proofs.YtnlepoplncjliaaGreatDoor

