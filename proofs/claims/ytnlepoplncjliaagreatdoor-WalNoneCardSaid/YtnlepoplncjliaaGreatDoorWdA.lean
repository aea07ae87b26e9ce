/-
  The law of wal: same, small. Condition: the lists are within reach.
-/
import Derived.Test.YtnlepoplncjliaaGreatDoorWcC
import Derived.Test.YtnlepoplncjliaaGreatDoorTLoad
namespace Go.Proofs.YtnlepoplncjliaaGreatDoor
open Go.RowKit

theorem addr_add2 (ad : Addr) (a b : Nat) : (ad.add a).add b = ad.add (a + b) := by
  unfold Addr.add
  by_cases ha : a = 0
  · subst ha; simp
  · by_cases hb : b = 0
    · subst hb; simp [ha]
    · simp [ha, hb, Nat.add_assoc]
theorem recsV_at {l : List (Nat × List Nat)} {i : Nat} {r : Nat × List Nat} (h : l[i]? = some r) : ∀ (j : Nat) (v : Value), (recV r)[j]? = some v → (recsV l)[i * 2 + j]? = some v := by
  intro j v hj
  have hj2 : j < 2 := (List.getElem?_eq_some_iff.1 hj).1
  induction l generalizing i with
  | nil => cases h
  | cons x l ih =>
    have e : recsV (x :: l) = recV x ++ recsV l := by simp [recsV]
    have hx : (recV x).length = 2 := rfl
    cases i with
    | zero =>
      injection h with h
      subst h
      rw [e, Nat.zero_mul, Nat.zero_add, List.getElem?_append_left (by omega)]
      exact hj
    | succ i =>
      rw [e, List.getElem?_append_right (by omega)]
      have := ih (i := i) (by simpa using h)
      rw [show (i + 1) * 2 + j - (recV x).length = i * 2 + j by omega]
      exact this
theorem Reads.rec {w wr : World} {B n i : Nat} {A : Option Addr} {l : List (Nat × List Nat)} {r : Nat × List Nat} (h : Reads w B 2 A n (recsV l)) (hb : Below B w wr) (hf : l[i]? = some r) : ∃ ad, A = some ad ∧ ad.block < B ∧ i < n ∧ ∀ (j : Nat) (v : Value), (recV r)[j]? = some v → wr.cell? ((ad.add (i * 2)).add j) = some v := by
  have hl := h.1
  rw [recsV_len] at hl
  have hi := (List.getElem?_eq_some_iff.1 hf).1
  have hin : i < n := by omega
  obtain ⟨ad, rfl, hbl, hc⟩ := h.2 (by omega)
  exact ⟨ad, rfl, hbl, hin, fun j v hj => by
    rw [addr_add2]
    exact (hb.cell (by rw [block_of_add]; exact hbl)).trans (hc _ _ (recsV_at hf j v hj))⟩
theorem Reads.rec_len {w : World} {B n : Nat} {A : Option Addr} {l : List (Nat × List Nat)} (h : Reads w B 2 A n (recsV l)) : l.length = n := by
  have hl := h.1
  rw [recsV_len] at hl
  omega
/-- A record's value. -/
def recA (r : Nat × List Nat) : Value := .agg (recV r).toArray
theorem run_neq_rec (a b : Nat × List Nat) (w : World) : (binOp .neq 36 (recA a) (recA b)).run Tryz.prog w = .ok (.bool (!((a.1 : Int) == (b.1 : Int) && (strOf a.2).toList == (strOf b.2).toList))) w := by
  have hu := Tryz.underlying36
  unfold recA recV
  go_simp
  repeat' split
  all_goals simp_all
theorem run_eql_rec (a b : Nat × List Nat) (w : World) : (binOp .eql 36 (recA a) (recA b)).run Tryz.prog w = .ok (.bool ((a.1 : Int) == (b.1 : Int) && (strOf a.2).toList == (strOf b.2).toList)) w := by
  have hu := Tryz.underlying36
  unfold recA recV
  go_simp
  repeat' split
  all_goals simp_all
theorem guard_rec (op : BinOp) (x y : Operand) (a b : Array Value) (w : World) : (eqGuard op 36 x y (.agg a) (.agg b)).run Tryz.prog w = .ok () w := by
  have h : Tryz.prog.eqGuardType Tryz.prog.depth 36 = false := by kernel_rfl
  cases op <;> simp [eqGuard, program, h, Sem.run_bind, Sem.run]
theorem same_rec {a b : Nat × List Nat} (ha : Byt a.2) (hb : Byt b.2) : ((a.1 : Int) == (b.1 : Int) && (strOf a.2).toList == (strOf b.2).toList) = decide (a = b) := by
  rw [strOf_beq ha hb, Bool.eq_iff_iff]
  cases a
  cases b
  simp
  intro _
  omega
section
variable {P : Program} {E : Operand → Option Value} {o : Oper} {w : World} {x : Operand} {T : TypeId}
/-- A struct, by its cells. -/
theorem Runs.loadCs {ad : Addr} {m : Nat} {ps : List Value} {d : TypeDesc} (ho : o.op = .load T x) (hx : E x = some (.pointer (some ad))) (hT : P.underlying T = some d) (hd : (match d with | .struct _ | .array _ _ => true | _ => false) = true) (hs : sizeIs P T m = true) (hm : ps.length = m) (hc : ∀ (j : Nat) (v : Value), ps[j]? = some v → w.cell? (ad.add j) = some v) : Runs P E o w (.agg ps.toArray) w := by
  obtain ⟨i, hi, hsz⟩ := sizeIs_spec hs
  exact .loadN (cs := ps) ho hx hT hd hi (by omega) hc
end
theorem same_any (A A' : Option Addr) (n c n' c' B : Nat) (l l' : List (Nat × List Nat)) (w : World) (hr : Reads w B 2 A n (recsV l)) (hr' : Reads w B 2 A' n' (recsV l')) (hB : B ≤ w.heap.size) (hb : ∀ r ∈ l, Byt r.2) (hb' : ∀ r ∈ l', Byt r.2) (hn : n ≤ 1000000000) (hn' : n' ≤ 1000000000) :
    Calls Tryz.prog 16 #[.slice A n c, .slice A' n' c'] w fun e w' => e = .returned (.bool (decide (l = l'))) ∧ Grow w w' := by
  have bel := Below.refl w.heap.size w
  have hl := hr.rec_len
  have hl' := hr'.rec_len
  refine Calls.start 26 Tryz.func16 rfl rfl rfl ?_
  refine Cd.seq ?_
  refine Cd.region ?_
  refine Seq.val (Runs.assign rfl rfl) rfl rfl rfl ?_
  refine Seq.nil ?_
  refine Post.weak (F' := [(0, _), (1, _), (4, _)]) ⟨rfl, rfl, rfl, trivial⟩ ?_
  refine Post.then_ ?_
  refine Cd.seq ?_
  refine Cd.seq ?_
  refine Cd.region ?_
  refine Seq.val (Runs.move rfl rfl) rfl rfl rfl ?_
  refine Seq.val (Runs.len rfl rfl Tryz.underlying29) rfl rfl rfl ?_
  refine Seq.val (Runs.move rfl rfl) rfl rfl rfl ?_
  refine Seq.val (Runs.len rfl rfl Tryz.underlying29) rfl rfl rfl ?_
  refine Seq.val (Runs.neqI rfl rfl rfl) rfl rfl rfl ?_
  refine Seq.nil ?_
  refine Post.weak (F' := [(0, _), (1, _), (4, _), (10, _)]) ⟨rfl, rfl, rfl, rfl, trivial⟩ ?_
  refine Post.then_ ?_
  refine Cd.cond rfl (fun h => ?_) (fun h => ?_)
  · have h : (n : Int) ≠ (n' : Int) := by simpa using h
    have hne : l ≠ l' := fun e => by rw [e] at hl; omega
    rw [decide_eq_false hne]
    refine Cd.seq ?_
    refine Cd.region ?_
    refine Seq.val (Runs.assign rfl rfl) rfl rfl rfl ?_
    refine Seq.nil ?_
    refine Post.weak (F' := [(0, _), (1, _), (4, _), (10, _)]) ⟨rfl, rfl, rfl, rfl, trivial⟩ ?_
    refine Post.then_ ?_
    refine Cd.ret ?_
    refine Post.then_ret ?_
    refine Post.end1 rfl rfl (.inl rfl) ?_
    exact ⟨rfl, bel⟩
  have h : (n : Int) = (n' : Int) := by simpa using h
  obtain rfl : n = n' := by omega
  refine Cd.skip ?_
  refine Post.then_ ?_
  refine Cd.seq ?_
  refine Cd.seq ?_
  refine Cd.region ?_
  refine Seq.val (Runs.assign rfl rfl) rfl rfl rfl ?_
  refine Seq.nil ?_
  refine Post.weak (F' := [(0, _), (1, _), (4, _), (5, _), (10, _)]) ⟨rfl, rfl, rfl, rfl, rfl, trivial⟩ ?_
  refine Post.then_ ?_
  refine Cd.block ?_
  refine Cd.loop (σ := Nat) (fun j => [(0, .slice A n c), (1, .slice A' n c'), (5, .int .i64 (j : Int))]) (fun j wr => j ≤ n ∧ l.take j = l'.take j ∧ Below w.heap.size w wr) (fun j => n - j) 0 ⟨Nat.zero_le _, by simp, bel⟩ ⟨rfl, rfl, rfl, trivial⟩ ?_
  clear bel
  rintro j wr ⟨hj, heq, bel⟩
  refine Cd.seq ?_
  refine Cd.seq ?_
  refine Cd.region ?_
  refine Seq.val (Runs.move rfl rfl) rfl rfl rfl ?_
  refine Seq.val (Runs.move rfl rfl) rfl rfl rfl ?_
  refine Seq.val (Runs.len rfl rfl Tryz.underlying29) rfl rfl rfl ?_
  refine Seq.val (Runs.lss rfl rfl rfl) rfl rfl rfl ?_
  refine Seq.nil ?_
  refine Post.weak (F' := [(0, _), (1, _), (5, _), (14, _)]) ⟨rfl, rfl, rfl, rfl, trivial⟩ ?_
  refine Post.then_ ?_
  refine Cd.condD rfl (fun hc => ?_) (fun hc => ?_)
  · obtain ⟨r, hrj⟩ : ∃ r, l[j]? = some r := ⟨_, List.getElem?_eq_getElem (by omega)⟩
    obtain ⟨r', hrj'⟩ : ∃ r, l'[j]? = some r := ⟨_, List.getElem?_eq_getElem (by omega)⟩
    obtain ⟨ad, rfl, hbd, -, hcl⟩ := hr.rec (bel.mono hB) hrj
    obtain ⟨ad', rfl, hbd', -, hcl'⟩ := hr'.rec (bel.mono hB) hrj'
    have hneq := run_neq_rec r r'
    rw [same_rec (hb r (List.mem_of_getElem? hrj)) (hb' r' (List.mem_of_getElem? hrj'))] at hneq
    have hsz := bel.size
    refine Cd.skip ?_
    refine Post.then_ ?_
    refine Cd.seq ?_
    refine Cd.block ?_
    refine Cd.seq ?_
    refine Cd.draw 9 (by kernel_rfl) [] (.inl rfl) rfl Grow Grow.refl (fun _ _ _ => Grow.trans) ?_
    intro w1 hw1 zw1
    replace bel := bel.step hw1
    have zbel := bel.size
    refine Dr.val Grow.refl rfl (fun w hG => Runs.move rfl rfl) rfl ?_
    refine Dr.val Grow.refl rfl (fun w hG => Runs.move rfl rfl) rfl ?_
    refine Dr.val Grow.refl rfl (fun w hG => Runs.indexN rfl rfl rfl Tryz.underlying29 (s := 2) (by kernel_rfl) (j := j) rfl (by omega)) rfl ?_
    refine Dr.val Grow.refl rfl (fun w hG => Runs.loadCs rfl rfl Tryz.underlying36 rfl (m := 2) (ps := recV r) (by kernel_rfl) rfl (fun k v hk => (hG.cell (by rw [block_of_add, block_of_add]; omega)).trans ((hw1.cell (by rw [block_of_add, block_of_add]; omega)).trans (hcl k v hk)))) rfl ?_
    refine Dr.val Grow.refl rfl (fun w hG => Runs.move rfl rfl) rfl ?_
    refine Dr.val Grow.refl rfl (fun w hG => Runs.move rfl rfl) rfl ?_
    refine Dr.val Grow.refl rfl (fun w hG => Runs.indexN rfl rfl rfl Tryz.underlying29 (s := 2) (by kernel_rfl) (j := j) rfl (by omega)) rfl ?_
    refine Dr.val Grow.refl rfl (fun w hG => Runs.loadCs rfl rfl Tryz.underlying36 rfl (m := 2) (ps := recV r') (by kernel_rfl) rfl (fun k v hk => (hG.cell (by rw [block_of_add, block_of_add]; omega)).trans ((hw1.cell (by rw [block_of_add, block_of_add]; omega)).trans (hcl' k v hk)))) rfl ?_
    refine Dr.val Grow.refl rfl (fun w hG => Runs.bin rfl rfl rfl (guard_rec _ _ _ _ _ w) (hneq w)) rfl ?_
    refine FinX.done (F' := [(0, _), (1, _), (5, _), (14, _), (25, _)]) rfl ⟨rfl, rfl, rfl, rfl, rfl, trivial⟩ ?_
    intro w2 hw2 fw2
    replace bel := bel.step hw2
    refine Seq.nil ?_
    refine Post.weak (F' := [(0, _), (1, _), (5, _), (14, _), (25, _)]) ⟨rfl, rfl, rfl, rfl, rfl, trivial⟩ ?_
    refine Post.then_ ?_
    refine Cd.cond rfl (fun h => ?_) (fun h => ?_)
    · have h : r ≠ r' := by simpa using h
      have hne : l ≠ l' := fun e => by
        rw [e, hrj'] at hrj
        injection hrj with e2
        exact h e2.symm
      rw [decide_eq_false hne]
      refine Cd.seq ?_
      refine Cd.region ?_
      refine Seq.val (Runs.assign rfl rfl) rfl rfl rfl ?_
      refine Seq.nil ?_
      refine Post.weak (F' := [(0, _), (1, _), (4, _), (5, _), (14, _), (25, _)]) ⟨rfl, rfl, rfl, rfl, rfl, rfl, trivial⟩ ?_
      refine Post.then_ ?_
      refine Cd.ret ?_
      refine Post.block_ret ?_
      refine Post.then_ret ?_
      refine Post.round_ret ?_
      refine Post.block_ret ?_
      refine Post.then_ret ?_
      refine Post.end1 rfl rfl (.inl rfl) ?_
      exact ⟨rfl, bel⟩
    have h : r = r' := by simpa using h
    subst h
    refine Cd.skip ?_
    refine Post.block_normal ?_
    refine Post.then_ ?_
    refine Cd.region ?_
    refine Seq.val (Runs.move rfl rfl) rfl rfl rfl ?_
    refine Seq.val (Runs.addI rfl rfl rfl (by omega) (by omega)) rfl rfl rfl ?_
    refine Seq.val (Runs.assign rfl rfl) rfl rfl rfl ?_
    refine Seq.nil ?_
    refine Post.weak (F' := [(0, _), (1, _), (5, _), (14, _), (25, _)]) ⟨rfl, rfl, rfl, rfl, rfl, trivial⟩ ?_
    exact Post.round (j + 1) ⟨rfl, rfl, int_at (by omega), trivial⟩ ⟨by omega, by rw [take_last hrj, take_last hrj', heq], bel⟩ (by omega)
  · obtain rfl : j = n := by omega
    have he : l = l' := by rw [← List.take_length (l := l), ← List.take_length (l := l'), hl, hl']; exact heq
    rw [decide_eq_true he]
    refine Cd.exit ?_
    refine Post.then_exit ?_
    refine Post.round_exit ?_
    refine Post.block_exit ?_
    refine Post.then_ ?_
    refine Cd.seq ?_
    refine Cd.region ?_
    refine Seq.val (Runs.assign rfl rfl) rfl rfl rfl ?_
    refine Seq.nil ?_
    refine Post.weak (F' := [(0, _), (1, _), (4, _), (5, _), (14, _)]) ⟨rfl, rfl, rfl, rfl, rfl, trivial⟩ ?_
    refine Post.then_ ?_
    refine Cd.ret ?_
    refine Post.end1 rfl rfl (.inl rfl) ?_
    exact ⟨rfl, bel⟩
end Go.Proofs.YtnlepoplncjliaaGreatDoor
