/-
  wal: Open. Condition: the disk is on, the name may be, the files are the log's own.
-/
import Derived.Test.YtnlepoplncjliaaGreatDoorWbI
namespace Go.Proofs.YtnlepoplncjliaaGreatDoor
open Go.RowKit

theorem zero_wal_Rec : zeroIs Tryz.prog 36 = some (some (.agg #[.int .i64 0, .string { data := #[] }])) := by kernel_rfl
theorem zero_wal_Wal : zeroIs Tryz.prog 80 = some (some (.agg #[.pointer none, .string { data := #[] }, .int .i64 0, .int .i64 0, .int .i64 0, .bool false])) := by kernel_rfl
theorem run_build_rec (a : Int) (s : List Nat) (w : World) : (Instr.build 36 #[(0, .int .i64 a), (1, .string (strOf s))]).run Tryz.prog w = .ok (.agg #[.int .i64 a, .string (strOf s)]) w := by
  have hu := Tryz.underlying36
  go_simp
theorem run_build_wal (gd : Nat) (nm : List Nat) (w : World) : (Instr.build 80 #[(0, .pointer (some ⟨gd, 0, none⟩)), (1, .string (strOf nm))]).run Tryz.prog w = .ok (.agg (wlCs gd nm 0 0 0 false)) w := by
  have hu := Tryz.underlying80
  unfold wlCs
  go_simp
/-- Records, laid flat. -/
def recV (r : Nat × List Nat) : List Value := [.int .i64 (r.1 : Int), .string (strOf r.2)]
def recsV (l : List (Nat × List Nat)) : List Value := l.flatMap recV
theorem recsV_app (a b : List (Nat × List Nat)) : recsV (a ++ b) = recsV a ++ recsV b := by simp [recsV]
theorem recsV_len (a : List (Nat × List Nat)) : (recsV a).length = a.length * 2 := by
  induction a with
  | nil => rfl
  | cons x a ih => simp only [recsV, List.flatMap_cons, List.length_append, List.length_cons] at ih ⊢; rw [ih]; simp [recV]; omega
theorem ones_recV (r : Nat × List Nat) : ∀ u ∈ recV r, u.oneCell' = true := fun u hu => by
  simp [recV] at hu
  rcases hu with rfl | rfl <;> rfl
/-- What Open answers. -/
def OpenR (w w' : World) (gd : Nat) (nm : List Nat) (v1 v2 : Value) (r : Dk × Int × List (Nat × List Nat) × Nat) : Prop :=
  (r.2.1 ≠ 0 ∧ v1 = .pointer none ∧ v2 = .slice none 0 0) ∨
  (r.2.1 = 0 ∧ ∃ g, v1 = .pointer (some ⟨g, 0, none⟩) ∧ w.heap.size ≤ g ∧ Blk w' g 80 (wlCs gd nm (r.2.2.2 : Int) 0 0 false) ∧ Own w' w.heap.size 36 2 v2 r.2.2.1.length (recsV r.2.2.1))
theorem segN_len {D : Dk} (h : D.ok) (nm : List Nat) (n : Nat) : (segN D nm n).2.2.length ≤ 100000 := by
  have h1 := (datN_ok h (fileN nm n logK)).2
  have h2 := allGo_len (D.datN (fileN nm n logK)).length (D.datN (fileN nm n logK))
  rw [show allGo (D.datN (fileN nm n logK)).length (D.datN (fileN nm n logK)) = allN (D.datN (fileN nm n logK)) from rfl] at h2
  unfold segN
  split
  · simp
  split
  · simp only [List.length_take]; omega
  split
  · simp only; omega
  · simp only; omega
set_option maxHeartbeats 4000000 in
theorem open_any (B gd : Nat) (D : Dk) (nm : List Nat) (w : World) (gv : Gv w) (hgB : 4 < B) (dk : DkAt w B gd D) (hoff : D.off = false) (hr : rightN nm = true) (hnm : Byt nm) (hown : ∀ p ∈ D.files, OwnNm nm p.1) :
    Calls Tryz.prog 13 #[.pointer (some ⟨gd, 0, none⟩), .string (strOf nm)] w fun e w' => ∃ v1 v2, e = .returned (.tuple #[v1, v2, .int .i64 (openW D nm).2.1]) ∧ OpenR w w' gd nm v1 v2 (openW D nm) ∧ DkAt w' B gd (openW D nm).1 ∧ Df B w w' := by
  have df := Df.refl B w
  have hnl : nm.length ≤ 8 := by
    unfold rightN at hr
    rw [Bool.and_eq_true, Bool.and_eq_true, decide_eq_true_eq, decide_eq_true_eq] at hr
    exact hr.2.2
  have hgw := tab_lt gv.pow
  obtain ⟨R, hR⟩ : ∃ R, R = openW D nm := ⟨_, rfl⟩
  rw [← hR]
  refine Calls.start 68 Tryz.func13 rfl rfl rfl ?_
  refine Cd.seq ?_
  refine Cd.region ?_
  refine Seq.val (Runs.assign rfl rfl) rfl rfl rfl ?_
  refine Seq.val (Runs.assign rfl rfl) rfl rfl rfl ?_
  refine Seq.val (Runs.assign rfl rfl) rfl rfl rfl ?_
  refine Seq.nil ?_
  refine Post.weak (F' := [(0, _), (1, _), (4, _), (5, _), (6, _)]) ⟨rfl, rfl, rfl, rfl, rfl, trivial⟩ ?_
  refine Post.then_ ?_
  refine Cd.seq ?_
  refine Cd.block ?_
  refine Cd.seq ?_
  refine Cd.region ?_
  refine Seq.val (Runs.move rfl rfl) rfl rfl rfl ?_
  refine Seq.val (Runs.eqlP rfl rfl rfl Tryz.underlying26) rfl rfl rfl ?_
  refine Seq.val (Runs.move rfl rfl) rfl rfl rfl ?_
  refine SeqC.start ?_
  refine SeqC.open rfl rfl rfl rfl rfl rfl rfl (fun hcx => Runs.move rfl rfl) ?_
  refine SeqC.nextC rfl rfl rfl rfl rfl rfl rfl (fun hcx => Enters.func rfl rfl rfl (run_enter Tryz.func35 (by kernel_rfl) rfl)) (fun hcx => right_w_any nm _ hnm (by omega)) ?_
  intro w1 hw1
  replace df := df.step hw1
  replace dk := dk.step hw1
  replace gv := gv.step hw1
  rw [hr]
  refine SeqC.next rfl rfl rfl rfl rfl rfl rfl (fun hcx => Runs.not rfl rfl) ?_
  refine SeqC.or rfl rfl rfl rfl rfl rfl rfl ?_
  refine Seq.val (Runs.assign rfl rfl) rfl rfl rfl ?_
  refine Seq.nil ?_
  refine Post.weak (F' := [(0, _), (1, _), (4, _), (5, _), (6, _), (15, _)]) ⟨rfl, rfl, rfl, rfl, rfl, rfl, trivial⟩ ?_
  refine Post.then_ ?_
  refine Cd.condF rfl rfl ?_
  refine Cd.seq ?_
  refine Cd.region ?_
  refine Seq.val (Runs.move rfl rfl) rfl rfl rfl ?_
  refine Seq.call (Enters.func rfl rfl rfl (run_enter Tryz.func36 (by kernel_rfl) rfl)) rfl rfl rfl (on_any B gd D _ dk) ?_
  rw [hoff]
  rintro e w5 ⟨rfl, hb5⟩
  refine ⟨_, rfl, ?_⟩
  replace df := df.step hb5
  replace dk := dk.step hb5
  replace gv := gv.step hb5
  refine Seq.val (Runs.not rfl rfl) rfl rfl rfl ?_
  refine Seq.val (Runs.assign rfl rfl) rfl rfl rfl ?_
  refine Seq.nil ?_
  refine Post.weak (F' := [(0, _), (1, _), (4, _), (5, _), (6, _), (15, _), (23, _)]) ⟨rfl, rfl, rfl, rfl, rfl, rfl, rfl, trivial⟩ ?_
  refine Post.then_ ?_
  refine Cd.condF rfl rfl ?_
  refine Cd.skip ?_
  refine Post.block_normal ?_
  refine Post.then_ ?_
  refine Cd.seq ?_
  refine Cd.region ?_
  refine Seq.val (Runs.move rfl rfl) rfl rfl rfl ?_
  refine Seq.val (Runs.move rfl rfl) rfl rfl rfl ?_
  have hsz5 := df.size
  refine Seq.val (Runs.build rfl rfl (run_build_wal gd nm _)) rfl rfl rfl ?_
  refine Seq.box rfl rfl rfl rfl rfl ?_
  intro g30 w2 n30
  replace df := df.step n30.below
  replace dk := dk.step n30.below
  replace gv := gv.step n30.below
  have k30 := n30.blk
  refine Seq.val (Runs.assign rfl rfl) rfl rfl rfl ?_
  refine Seq.nil ?_
  refine Post.weak (F' := [(0, _), (1, _), (4, _), (5, _), (6, _), (7, _), (15, _), (23, _)]) ⟨rfl, rfl, rfl, rfl, rfl, rfl, rfl, rfl, trivial⟩ ?_
  refine Post.then_ ?_
  refine Cd.seq ?_
  refine Cd.region ?_
  refine Seq.val (Runs.assign rfl rfl) rfl rfl rfl ?_
  refine Seq.nil ?_
  refine Post.weak (F' := [(0, _), (1, _), (4, _), (5, _), (6, _), (7, _), (8, _), (15, _), (23, _)]) ⟨rfl, rfl, rfl, rfl, rfl, rfl, rfl, rfl, rfl, trivial⟩ ?_
  refine Post.then_ ?_
  refine Cd.seq ?_
  refine Cd.seq ?_
  refine Cd.region ?_
  refine Seq.val (Runs.move rfl rfl) rfl rfl rfl ?_
  have k30 : Blk _ g30 80 (wlCs gd nm 0 0 0 false) := k30
  refine Seq.call (Enters.func rfl rfl rfl (run_enter Tryz.func37 (by kernel_rfl) rfl)) rfl rfl rfl (numbers_any B g30 gd D nm 0 0 0 false _ gv k30 dk hnm hnl hown) ?_
  rintro e w7 ⟨v32, ns, rfl, hinc, hmem, ownN, hb7⟩
  refine ⟨_, rfl, ?_⟩
  have hns : ns = numsL nm (D.files.map (·.1)) := inc_eq hinc numsL_inc (fun n => by rw [hmem, numsL_mem])
  clear hinc
  have hnsl := numsL_len (nm := nm) (names := D.files.map (·.1))
  have hRR : R = openGo nm ns D [] 0 := by rw [hR, hns]; rfl
  rw [← hns] at hnsl
  replace ownN := ownN.mono df.size
  replace df := df.step hb7
  replace dk := dk.step hb7
  replace gv := gv.step hb7
  replace k30 := k30.step hb7
  obtain ⟨A, c, rfl, -⟩ := ownN.reads
  refine Seq.val (Runs.len rfl rfl Tryz.underlying81) rfl rfl rfl ?_
  refine Seq.val (Runs.move rfl rfl) rfl rfl rfl ?_
  refine Seq.nil ?_
  refine Post.weak (F' := [(0, _), (1, _), (4, _), (5, _), (6, _), (7, _), (8, _), (15, _), (23, _), (32, _), (33, _), (34, _)]) ⟨rfl, rfl, rfl, rfl, rfl, rfl, rfl, rfl, rfl, rfl, rfl, rfl, trivial⟩ ?_
  refine Post.then_ ?_
  refine Cd.block ?_
  have own := Own.nil w7 w.heap.size 36 2
  have e30 : w.heap.size ≤ g30 := Nat.le_trans hsz5 n30.ge
  refine Cd.loop (σ := Nat × Dk × List (Nat × List Nat) × Nat × Value) (fun q => [(7, .pointer (some ⟨g30, 0, none⟩)), (8, q.2.2.2.2), (32, .slice A ns.length c), (33, .int .i64 (ns.length : Int)), (34, .int .i64 (q.1 : Int))]) (fun q wr => q.1 ≤ ns.length ∧ R = openGo nm (ns.drop q.1) q.2.1 q.2.2.1 q.2.2.2.1 ∧ q.2.1.off = false ∧ q.2.2.1.length ≤ 100000 * q.1 ∧ DkAt wr B gd q.2.1 ∧ Df B w wr ∧ Gv wr ∧ Blk wr g30 80 (wlCs gd nm (q.2.2.2.1 : Int) 0 0 false) ∧ Own wr w.heap.size 3 1 (.slice A ns.length c) ns.length (ns.map fun (n : Nat) => Value.int .i64 (n : Int)) ∧ Own wr w.heap.size 36 2 q.2.2.2.2 q.2.2.1.length (recsV q.2.2.1)) (fun q => ns.length - q.1) (0, D, [], 0, .slice none 0 0) ⟨Nat.zero_le _, hRR, hoff, Nat.le_refl _, dk, df, gv, k30, ownN, own⟩ ⟨rfl, rfl, rfl, rfl, rfl, trivial⟩ ?_
  clear dk df gv k30 ownN own hRR hoff
  rintro ⟨i, D', acc, num, v⟩ wr ⟨hi, hRR, hoff, hacc, dk, df, gv, k30, ownN, own⟩
  simp only at hi hRR hoff hacc dk k30 own
  show Cd _ _ _ _ [(7, .pointer (some ⟨g30, 0, none⟩)), (8, v), (32, .slice A ns.length c), (33, .int .i64 (ns.length : Int)), (34, .int .i64 (i : Int))] _
  refine Cd.seq ?_
  refine Cd.region ?_
  refine Seq.val (Runs.lss rfl rfl rfl) rfl rfl rfl ?_
  refine Seq.nil ?_
  refine Post.weak (F' := [(7, _), (8, _), (32, _), (33, _), (34, _), (35, _)]) ⟨rfl, rfl, rfl, rfl, rfl, rfl, trivial⟩ ?_
  refine Post.then_ ?_
  refine Cd.seq ?_
  refine Cd.condD rfl (fun hc => ?_) (fun hc => ?_)
  · obtain ⟨n, hn⟩ : ∃ n, ns[i]? = some n := ⟨_, List.getElem?_eq_getElem (by omega)⟩
    have hn6 : n ≤ 999999 := ((hmem n).1 (List.mem_of_getElem? hn)).1
    rw [drop_head hn, openGo] at hRR
    obtain ⟨A', c', hv, hrd⟩ := ownN.reads
    injection hv with e1 _ e2
    subst e1 e2
    obtain ⟨ad, rfl, -, hcl⟩ := hrd.2 (by omega)
    have hcd := hcl i (.int .i64 (n : Int)) (by rw [List.getElem?_map, hn]; rfl)
    clear hrd hcl
    refine Cd.skip ?_
    refine Post.then_ ?_
    refine Cd.seq ?_
    refine Cd.block ?_
    refine Cd.seq ?_
    refine Cd.region ?_
    refine Seq.val (Runs.index1 rfl rfl rfl Tryz.underlying81 (by kernel_rfl) (j := i) rfl (by omega)) rfl rfl rfl ?_
    refine Seq.val (Runs.load1 rfl rfl Tryz.underlying3 rfl hcd) rfl rfl rfl ?_
    refine Seq.val (Runs.assign rfl rfl) rfl rfl rfl ?_
    refine Seq.nil ?_
    refine Post.weak (F' := [(7, _), (8, _), (10, _), (32, _), (33, _), (34, _), (35, _)]) ⟨rfl, rfl, rfl, rfl, rfl, rfl, rfl, trivial⟩ ?_
    refine Post.then_ ?_
    refine Cd.seq ?_
    refine Cd.region ?_
    refine Seq.val (Runs.move rfl rfl) rfl rfl rfl ?_
    refine Seq.val (Runs.move rfl rfl) rfl rfl rfl ?_
    have hsz := df.size
    have hsl := segN_len dk.ok nm n
    refine Seq.call (Enters.func rfl rfl rfl (run_enter Tryz.func38 (by kernel_rfl) rfl)) rfl rfl rfl (segment_any B g30 gd n D' nm (num : Int) 0 0 false _ gv hgB k30 dk hoff hn6 hnm hnl) ?_
    clear dk
    rintro e w3 ⟨vs, rfl, ownS, dk, fw3⟩
    refine ⟨_, rfl, ?_⟩
    replace df := df.df fw3
    replace gv := gv.df fw3
    replace k30 := k30.df fw3
    replace ownN := ownN.df fw3
    replace own := own.df fw3
    have hoff' := segN_off (nm := nm) (n := n) hoff
    replace ownS := ownS.mono hsz
    obtain ⟨S, hS⟩ : ∃ S, S = segN D' nm n := ⟨_, rfl⟩
    rw [← hS] at hRR ownS dk hoff' hsl
    rw [← hS]
    clear hS
    obtain ⟨D2, e2, L⟩ := S
    simp only at hRR ownS dk hoff' hsl
    obtain ⟨AL, cL, rfl, -⟩ := ownS.reads
    refine Seq.val (Runs.move rfl rfl) rfl rfl rfl ?_
    refine Seq.val (Runs.extract rfl rfl rfl) rfl rfl rfl ?_
    refine Seq.val (Runs.extract rfl rfl rfl) rfl rfl rfl ?_
    refine Seq.val (Runs.assign rfl rfl) rfl rfl rfl ?_
    refine Seq.val (Runs.assign rfl rfl) rfl rfl rfl ?_
    refine Seq.nil ?_
    refine Post.weak (F' := [(7, _), (8, _), (10, _), (11, _), (12, _), (32, _), (33, _), (34, _), (35, _)]) ⟨rfl, rfl, rfl, rfl, rfl, rfl, rfl, rfl, rfl, trivial⟩ ?_
    refine Post.then_ ?_
    refine Cd.seq ?_
    refine Cd.seq ?_
    refine Cd.region ?_
    refine Seq.val (Runs.move rfl rfl) rfl rfl rfl ?_
    refine Seq.val (Runs.neqI rfl rfl rfl) rfl rfl rfl ?_
    refine Seq.nil ?_
    refine Post.weak (F' := [(7, _), (8, _), (10, _), (11, _), (12, _), (32, _), (33, _), (34, _), (35, _), (45, _)]) ⟨rfl, rfl, rfl, rfl, rfl, rfl, rfl, rfl, rfl, rfl, trivial⟩ ?_
    refine Post.then_ ?_
    refine Cd.cond rfl (fun h => ?_) (fun h => ?_)
    · have h : e2 ≠ 0 := by simpa using h
      rw [if_pos h] at hRR
      subst hRR
      refine Cd.seq ?_
      refine Cd.region ?_
      refine Seq.val (Runs.move rfl rfl) rfl rfl rfl ?_
      refine Seq.val (Runs.assign rfl rfl) rfl rfl rfl ?_
      refine Seq.val (Runs.assign rfl rfl) rfl rfl rfl ?_
      refine Seq.val (Runs.assign rfl rfl) rfl rfl rfl ?_
      refine Seq.nil ?_
      refine Post.weak (F' := [(4, _), (5, _), (6, _), (7, _), (8, _), (10, _), (11, _), (12, _), (32, _), (33, _), (34, _), (35, _), (45, _)]) ⟨rfl, rfl, rfl, rfl, rfl, rfl, rfl, rfl, rfl, rfl, rfl, rfl, rfl, trivial⟩ ?_
      refine Post.then_ ?_
      refine Cd.ret ?_
      refine Post.then_ret ?_
      refine Post.block_ret ?_
      refine Post.then_ret ?_
      refine Post.round_ret ?_
      refine Post.block_ret ?_
      refine Post.then_ret ?_
      refine Post.end3 rfl rfl rfl rfl (.inl rfl) ?_
      exact ⟨_, _, rfl, .inl ⟨h, rfl, rfl⟩, dk, df⟩
    have h : e2 = 0 := by simpa using h
    rw [if_neg (by omega)] at hRR
    have hoff2 := hoff' h
    clear hoff hoff'
    refine Cd.skip ?_
    refine Post.then_ ?_
    refine Cd.seq ?_
    refine Cd.seq ?_
    refine Cd.region ?_
    refine Seq.val (Runs.move rfl rfl) rfl rfl rfl ?_
    refine Seq.val (Runs.len rfl rfl Tryz.underlying22) rfl rfl rfl ?_
    refine Seq.val (Runs.move rfl rfl) rfl rfl rfl ?_
    refine Seq.nil ?_
    refine Post.weak (F' := [(7, _), (8, _), (10, _), (11, _), (12, _), (32, _), (33, _), (34, _), (35, _), (45, _), (47, _), (48, _), (49, _)]) ⟨rfl, rfl, rfl, rfl, rfl, rfl, rfl, rfl, rfl, rfl, rfl, rfl, rfl, trivial⟩ ?_
    refine Post.then_ ?_
    refine Cd.block ?_
    refine Cd.loop (σ := Nat × Value) (fun q => [(7, .pointer (some ⟨g30, 0, none⟩)), (8, q.2), (10, .int .i64 (n : Int)), (32, .slice (some ad) ns.length c), (33, .int .i64 (ns.length : Int)), (34, .int .i64 (i : Int)), (47, .slice AL L.length cL), (48, .int .i64 (L.length : Int)), (49, .int .i64 (q.1 : Int))]) (fun q wr => q.1 ≤ L.length ∧ DkAt wr B gd D2 ∧ Df B w wr ∧ Gv wr ∧ Blk wr g30 80 (wlCs gd nm (num : Int) 0 0 false) ∧ Own wr w.heap.size 3 1 (.slice (some ad) ns.length c) ns.length (ns.map fun (n : Nat) => Value.int .i64 (n : Int)) ∧ Own wr w.heap.size 9 1 (.slice AL L.length cL) L.length (Ts L) ∧ Own wr w.heap.size 36 2 q.2 (acc ++ (L.take q.1).map fun s => (n, s)).length (recsV (acc ++ (L.take q.1).map fun s => (n, s)))) (fun q => L.length - q.1) (0, v) ⟨Nat.zero_le _, dk, df, gv, k30, ownN, ownS, by simpa using own⟩ ⟨rfl, rfl, rfl, rfl, rfl, rfl, rfl, rfl, rfl, trivial⟩ ?_
    clear dk df gv k30 ownN ownS own
    rintro ⟨j, v'⟩ wr2 ⟨hj, dk, df, gv, k30, ownN, ownS, own⟩
    simp only at hj own
    obtain ⟨A8, c8, rfl, -⟩ := own.reads
    show Cd _ _ _ _ [(7, .pointer (some ⟨g30, 0, none⟩)), (8, .slice A8 (acc ++ (L.take j).map fun s => (n, s)).length c8), (10, .int .i64 (n : Int)), (32, .slice (some ad) ns.length c), (33, .int .i64 (ns.length : Int)), (34, .int .i64 (i : Int)), (47, .slice AL L.length cL), (48, .int .i64 (L.length : Int)), (49, .int .i64 (j : Int))] _
    have hal : (acc ++ (L.take j).map fun s => (n, s)).length = acc.length + j := by rw [List.length_append, List.length_map, List.length_take]; omega
    refine Cd.seq ?_
    refine Cd.region ?_
    refine Seq.val (Runs.lss rfl rfl rfl) rfl rfl rfl ?_
    refine Seq.nil ?_
    refine Post.weak (F' := [(7, _), (8, _), (10, _), (32, _), (33, _), (34, _), (47, _), (48, _), (49, _), (50, _)]) ⟨rfl, rfl, rfl, rfl, rfl, rfl, rfl, rfl, rfl, rfl, trivial⟩ ?_
    refine Post.then_ ?_
    refine Cd.seq ?_
    refine Cd.condD rfl (fun hc => ?_) (fun hc => ?_)
    · obtain ⟨s, hs⟩ : ∃ s, L[j]? = some s := ⟨_, List.getElem?_eq_getElem (by omega)⟩
      obtain ⟨A', c', hv, hrd⟩ := ownS.reads
      injection hv with e1 _ e2
      subst e1 e2
      obtain ⟨ad2, rfl, -, hcl⟩ := hrd.2 (by omega)
      have hcd := hcl j (.string (strOf s)) (by rw [get_Ts, hs]; rfl)
      clear hrd hcl
      have hnj : L.take (j + 1) = L.take j ++ [s] := take_last hs
      refine Cd.skip ?_
      refine Post.then_ ?_
      refine Cd.seq ?_
      refine Cd.block ?_
      refine Cd.seq ?_
      refine Cd.region ?_
      refine Seq.val (Runs.index1 rfl rfl rfl Tryz.underlying22 (by kernel_rfl) (j := j) rfl (by omega)) rfl rfl rfl ?_
      refine Seq.val (Runs.load1 rfl rfl Tryz.underlying9 rfl hcd) rfl rfl rfl ?_
      refine Seq.val (Runs.assign rfl rfl) rfl rfl rfl ?_
      refine Seq.nil ?_
      refine Post.weak (F' := [(7, _), (8, _), (10, _), (14, _), (32, _), (33, _), (34, _), (47, _), (48, _), (49, _), (50, _)]) ⟨rfl, rfl, rfl, rfl, rfl, rfl, rfl, rfl, rfl, rfl, rfl, trivial⟩ ?_
      refine Post.then_ ?_
      refine Cd.region ?_
      refine Seq.val (Runs.move rfl rfl) rfl rfl rfl ?_
      refine Seq.val (Runs.move rfl rfl) rfl rfl rfl ?_
      refine Seq.val (Runs.move rfl rfl) rfl rfl rfl ?_
      refine Seq.val (Runs.build rfl rfl (run_build_rec (n : Int) s _)) rfl rfl rfl ?_
      refine Seq.slice (vs := [_]) (s := 2) rfl rfl rfl Tryz.underlying29 (by kernel_rfl) (zero_wal_Rec) (by omega) (by omega) ⟨rfl, trivial⟩ rfl rfl rfl ?_
      intro g57 w4 n57
      have l57 := Nat.lt_of_lt_of_le k30.lt n57.ge
      replace df := df.step n57.below
      replace dk := dk.step n57.below
      replace gv := gv.step n57.below
      replace ownN := ownN.step n57.below
      replace own := own.step n57.below
      replace ownS := ownS.step n57.below
      replace k30 := k30.step n57.below
      have k57 := n57.blk
      have hrx := Reads.blk (size := 2) k57 1 rfl
      refine Seq.append rfl rfl rfl Tryz.underlying29 (by kernel_rfl) zero_wal_Rec rfl (by decide) (b := 24) (by kernel_rfl) own hrx (ones_recV (n, s)) df.size (by simp only [maxLen]; omega) (by omega) rfl rfl rfl ?_
      intro v2 wb own2 ha
      replace dk := dk.app own ha
      replace df := df.app own ha (Nat.le_refl _)
      replace k30 := k30.appNe own ha
      replace gv := gv.below ha.below hgw
      replace ownN := ownN.appNe own ha
      replace ownS := ownS.appNe own ha
      replace own2 : Own wb w.heap.size 36 2 v2 ((acc ++ (L.take j).map fun s => (n, s)).length + 1) (recsV (acc ++ (L.take j).map fun s => (n, s)) ++ recsV [(n, s)]) := own2
      rw [← recsV_app, List.append_assoc, ← List.map_singleton (f := fun s => (n, s)), ← List.map_append, ← hnj] at own2
      clear own k57 hrx ha
      refine Seq.val (Runs.assign rfl rfl) rfl rfl rfl ?_
      refine Seq.nil ?_
      refine Post.weak (F' := [(7, _), (8, _), (10, _), (14, _), (32, _), (33, _), (34, _), (47, _), (48, _), (49, _), (50, _)]) ⟨rfl, rfl, rfl, rfl, rfl, rfl, rfl, rfl, rfl, rfl, rfl, trivial⟩ ?_
      refine Post.block_normal ?_
      refine Post.then_ ?_
      refine Cd.region ?_
      refine Seq.val (Runs.addI rfl rfl rfl (by omega) (by omega)) rfl rfl rfl ?_
      refine Seq.val (Runs.move rfl rfl) rfl rfl rfl ?_
      refine Seq.nil ?_
      refine Post.weak (F' := [(7, _), (8, _), (10, _), (14, _), (32, _), (33, _), (34, _), (47, _), (48, _), (49, _), (50, _)]) ⟨rfl, rfl, rfl, rfl, rfl, rfl, rfl, rfl, rfl, rfl, rfl, trivial⟩ ?_
      refine Post.round (j + 1, v2) ⟨rfl, rfl, rfl, rfl, rfl, rfl, rfl, rfl, int_at (by omega), trivial⟩ ⟨by simp only; omega, dk, df, gv, k30, ownN, ownS, ?_⟩ (by simp only; omega)
      simp only
      have hl2 : (acc ++ (L.take (j + 1)).map fun s => (n, s)).length = (acc ++ (L.take j).map fun s => (n, s)).length + 1 := by rw [hal, List.length_append, List.length_map, List.length_take]; omega
      rw [hl2]
      exact own2
    · obtain rfl : j = L.length := by omega
      rw [List.take_length] at own hal
      rw [List.take_length]
      refine Cd.exit ?_
      refine Post.then_exit ?_
      refine Post.round_exit ?_
      refine Post.block_exit ?_
      refine Post.then_ ?_
      refine Cd.region ?_
      refine Seq.val (Runs.move rfl rfl) rfl rfl rfl ?_
      refine Seq.val (Runs.move rfl rfl) rfl rfl rfl ?_
      refine Seq.val (Runs.addI rfl rfl rfl (by omega) (by omega)) rfl rfl rfl ?_
      refine Seq.val (Runs.nilCheck rfl rfl) rfl rfl rfl ?_
      refine Seq.val (Runs.fieldB 2 rfl rfl Tryz.underlying80 rfl (by kernel_rfl)) rfl rfl rfl ?_
      refine Seq.store1 rfl rfl rfl (by kernel_rfl) rfl rfl k30 rfl rfl rfl ?_
      intro w4 pw4
      replace df := df.put k30 pw4 e30
      replace dk := dk.put k30 pw4 e30
      replace gv := gv.put k30 pw4 e30
      replace ownN := ownN.put k30 pw4 e30
      replace own := own.put k30 pw4 e30
      replace ownS := ownS.put k30 pw4 e30
      replace k30 := pw4.blk
      refine Seq.nil ?_
      refine Post.weak (F' := [(7, _), (8, _), (10, _), (32, _), (33, _), (34, _), (47, _), (48, _), (49, _), (50, _)]) ⟨rfl, rfl, rfl, rfl, rfl, rfl, rfl, rfl, rfl, rfl, trivial⟩ ?_
      refine Post.block_normal ?_
      refine Post.then_ ?_
      refine Cd.region ?_
      refine Seq.val (Runs.addI rfl rfl rfl (by omega) (by omega)) rfl rfl rfl ?_
      refine Seq.val (Runs.move rfl rfl) rfl rfl rfl ?_
      refine Seq.nil ?_
      refine Post.weak (F' := [(7, _), (8, _), (10, _), (32, _), (33, _), (34, _), (47, _), (48, _), (49, _), (50, _)]) ⟨rfl, rfl, rfl, rfl, rfl, rfl, rfl, rfl, rfl, rfl, trivial⟩ ?_
      replace k30 : Blk _ g30 80 (wlCs gd nm ((n + 1 : Nat) : Int) 0 0 false) := k30
      exact Post.round (i + 1, D2, acc ++ L.map (fun s => (n, s)), n + 1, .slice A8 (acc ++ L.map fun s => (n, s)).length c8) ⟨rfl, rfl, rfl, rfl, int_at (by omega), trivial⟩ ⟨by simp only; omega, hRR, hoff2, by simp only; omega, dk, df, gv, k30, ownN, own⟩ (by simp only; omega)
  · obtain rfl : i = ns.length := by omega
    rw [List.drop_length, openGo] at hRR
    subst hRR
    refine Cd.exit ?_
    refine Post.then_exit ?_
    refine Post.round_exit ?_
    refine Post.block_exit ?_
    refine Post.then_ ?_
    refine Cd.seq ?_
    refine Cd.region ?_
    refine Seq.val (Runs.move rfl rfl) rfl rfl rfl ?_
    refine Seq.val (Runs.move rfl rfl) rfl rfl rfl ?_
    refine Seq.val (Runs.assign rfl rfl) rfl rfl rfl ?_
    refine Seq.val (Runs.assign rfl rfl) rfl rfl rfl ?_
    refine Seq.val (Runs.assign rfl rfl) rfl rfl rfl ?_
    refine Seq.nil ?_
    refine Post.weak (F' := [(4, _), (5, _), (6, _), (7, _), (8, _), (32, _), (33, _), (34, _), (35, _)]) ⟨rfl, rfl, rfl, rfl, rfl, rfl, rfl, rfl, rfl, trivial⟩ ?_
    refine Post.then_ ?_
    refine Cd.ret ?_
    refine Post.end3 rfl rfl rfl rfl (.inl rfl) ?_
    exact ⟨_, _, rfl, .inr ⟨rfl, g30, rfl, e30, k30, own⟩, dk, df⟩
end Go.Proofs.YtnlepoplncjliaaGreatDoor
