/-
  debentureref01's Share: what it answers. Condition: the numbers are of 64 bits, not too many.
-/
import Derived.Test.YtpdeihienkbeeaaBigM
import Derived.Test.YtpdeihienkbeeaaShareB
namespace Go.Proofs.Ytpdeihienkbeeaa
open Go.RowKit

theorem zero_bool : zeroIs Try.prog 4 = some (some (.bool false)) := by kernel_rfl
/-- A store into a block that holds no unsigned numbers changes no digits. -/
theorem Reads.otherU {w w' : World} {B n g : Nat} {A : Option Addr} {l : List Nat} {cs : Array Value} {t : TypeId} {fr : Nat × Nat} (h : Reads w B 1 A n (U l)) (hg : w.heap[g]? = some (.cells cs t fr)) (hcs : ∀ (z : Int), Value.int .u64 z ∉ cs.toList)
    (hgr : w.grownBy w' (some g)) : Reads w' B 1 A n (U l) := by
  refine ⟨h.1, fun hn => ?_⟩
  obtain ⟨ad, hA, hb, hc⟩ := h.2 hn
  refine ⟨ad, hA, hb, fun j u hu => ?_⟩
  have h1 := hc j u hu
  have hne : (ad.add j).block ≠ g := by
    intro he
    rw [get_U] at hu
    cases hl : l[j]? with
    | none => rw [hl] at hu; cases hu
    | some d =>
      rw [hl] at hu
      injection hu with hu
      subst hu
      unfold World.cell? at h1
      rw [he, hg] at h1
      simp only at h1
      split at h1
      · cases h1
      · exact hcs _ (Array.mem_toList_iff.2 (Array.mem_of_getElem? h1))
  have hlt : (ad.add j).block < w.heap.size := by
    unfold World.cell? at h1
    rcases Nat.lt_or_ge (ad.add j).block w.heap.size with h2 | h2
    · exact h2
    · rw [Array.getElem?_eq_none h2] at h1; cases h1
  rw [← h1]
  unfold World.cell?
  rw [hgr.block _ hlt (by intro e; injection e with e; exact hne e)]
/-- The cells of numbers without a sign. -/
def pairs (ms : List Value) : List Value := ms.flatMap fun m => [.bool false, m]
theorem pairs_len (ms : List Value) : (pairs ms).length = 2 * ms.length := by
  induction ms with
  | nil => rfl
  | cons m ms ih => show (Value.bool false :: m :: pairs ms).length = _; simp [ih]; omega
theorem pairs_at {ms : List Value} {j : Nat} {m : Value} (h : ms[j]? = some m) : (pairs ms)[2 * j]? = some (.bool false) ∧ (pairs ms)[2 * j + 1]? = some m := by
  induction ms generalizing j with
  | nil => simp at h
  | cons x ms ih =>
    cases j with
    | zero => simp at h; subst h; exact ⟨rfl, rfl⟩
    | succ j =>
      have := ih (j := j) (by simpa using h)
      exact this
theorem pairs_set (ms : List Value) (m : Value) : ∀ j, j < ms.length → (pairs ms).take (2 * j) ++ ([.bool false, m] ++ (pairs ms).drop (2 * j + 2)) = pairs (ms.set j m) := by
  induction ms with
  | nil => intro j h; simp at h
  | cons x ms ih =>
    intro j h
    cases j with
    | zero => rfl
    | succ j =>
      have := ih j (by simpa using h)
      show Value.bool false :: x :: ((pairs ms).take (2 * j) ++ ([.bool false, m] ++ (pairs ms).drop (2 * j + 2))) = _
      rw [this]
      rfl
def sliceV : Value → Prop
  | .slice .. => True
  | _ => False
theorem noU_pairs {ms : List Value} (h : ∀ m ∈ ms, sliceV m) (k : IntKind) (z : Int) : Value.int k z ∉ (pairs ms).toArray.toList := by
  intro hm
  simp only [pairs, List.mem_flatMap] at hm
  obtain ⟨m, h1, h2⟩ := hm
  have h3 := h m h1
  simp at h2
  rw [← h2] at h3
  exact h3
theorem noU_I (l : List Int) (z : Int) : Value.int .u64 z ∉ (I l).toArray.toList := by
  intro hm
  simp [I] at hm
theorem noU_B (l : List Bool) (z : Int) : Value.int .u64 z ∉ (l.map Value.bool).toArray.toList := by
  intro hm
  simp at hm
/-- A number's digits; a number without a sign. -/
structure MagU (w : World) (m : Value) (n : Nat) : Prop where
  mag : MagR w m n
theorem MagU.step {w w' : World} {m : Value} {n : Nat} (h : MagU w m n) (hb : Below w.heap.size w w') : MagU w' m n := ⟨h.mag.step hb⟩
theorem MagU.put {w w' : World} {m : Value} {n g B : Nat} {T : TypeId} {cur cs : Array Value} (h : MagU w m n) (k : Blk w g T cur) (p : Put w w' g T cs) (_e : B ≤ g) (hcs : ∀ (z : Int), Value.int .u64 z ∉ cur.toList := by first | exact noU_I _ | exact noU_B _ | (intro z; exact noU_pairs (by assumption) _ z) | simp [Value.cells, *]) : MagU w' m n := by
  obtain ⟨A, c, e, h1, h2, h3⟩ := h.mag
  exact ⟨A, c, e, h1, h2, (h3.otherU k hcs p.grown).more p.grown.size⟩
/-- So many rests. -/
structure Rests (w : World) (ms : List Value) (r : List Nat) (k : Nat) : Prop where
  mag : ∀ j, j < k → ∃ m, ms[j]? = some m ∧ MagU w m (r.getD j 0)
theorem Rests.step {w w' : World} {ms : List Value} {r : List Nat} {k : Nat} (h : Rests w ms r k) (hb : Below w.heap.size w w') : Rests w' ms r k := ⟨fun j hj => by obtain ⟨m, h1, h2⟩ := h.mag j hj; exact ⟨m, h1, h2.step hb⟩⟩
theorem Rests.put {w w' : World} {ms : List Value} {r : List Nat} {k g B : Nat} {T : TypeId} {cur cs : Array Value} (h : Rests w ms r k) (kb : Blk w g T cur) (p : Put w w' g T cs) (e : B ≤ g) (hcs : ∀ (z : Int), Value.int .u64 z ∉ cur.toList := by first | exact noU_I _ | exact noU_B _ | (intro z; exact noU_pairs (by assumption) _ z) | simp [Value.cells, *]) : Rests w' ms r k := ⟨fun j hj => by obtain ⟨m, h1, h2⟩ := h.mag j hj; exact ⟨m, h1, h2.put kb p e hcs⟩⟩
theorem made_pairs (n : Nat) : madeCells (Value.agg #[.bool false, .slice none 0 0]).cells (n * (Value.agg #[.bool false, .slice none 0 0]).cells.size) = (pairs (List.replicate n (.slice none 0 0))).toArray := by
  show madeCells #[.bool false, .slice none 0 0] (n * 2) = _
  apply Array.ext_getElem?
  intro i
  have hl := pairs_len (List.replicate n (Value.slice none 0 0))
  rw [List.length_replicate] at hl
  unfold madeCells
  rcases Nat.lt_or_ge i (n * 2) with h | h
  · have h1 : (List.replicate n (Value.slice none 0 0))[i / 2]? = some (Value.slice none 0 0) := by rw [List.getElem?_replicate, if_pos (by omega)]
    obtain ⟨h2, h3⟩ := pairs_at h1
    rcases Nat.mod_two_eq_zero_or_one i with h4 | h4
    · have e : i = 2 * (i / 2) := by omega
      have : (pairs (List.replicate n (Value.slice none 0 0)))[i]? = some (.bool false) := by rw [e]; exact h2
      simp [h, h4, this]
    · have e : i = 2 * (i / 2) + 1 := by omega
      have : (pairs (List.replicate n (Value.slice none 0 0)))[i]? = some (Value.slice none 0 0) := by rw [e]; exact h3
      simp [h, h4, this]
  · have : (pairs (List.replicate n (Value.slice none 0 0)))[i]? = none := List.getElem?_eq_none (by omega)
    simp [Array.getElem?_eq_none, h, this]
theorem made_bool (m : Nat) : madeCells (Value.bool false).cells (m * (Value.bool false).cells.size) = ((List.replicate m false).map Value.bool).toArray := by
  show madeCells #[Value.bool false] (m * 1) = _
  rw [Nat.mul_one, madeCells_one, List.map_replicate]
section
variable {P : Program} {E : Operand → Option Value} {o : Oper} {w : World} {x y : Operand} {T : TypeId}
/-- A struct within a block. -/
theorem Runs.loadP {g off m : Nat} {cs : Array Value} {ps : List Value} {t : TypeId} {d : TypeDesc} (ho : o.op = .load T x) (hx : E x = some (.pointer (some ⟨g, off, none⟩))) (hT : P.underlying T = some d) (hd : (match d with | .struct _ | .array _ _ => true | _ => false) = true) (hb : Blk w g t cs) (hs : sizeIs P T m = true) (hm : ps.length = m) (hp : ∀ j v, ps[j]? = some v → cs[off + j]? = some v) : Runs P E o w (.agg ps.toArray) w := by
  obtain ⟨i, hi, hsz⟩ := sizeIs_spec hs
  exact .loadN (cs := ps) ho hx hT hd hi (by omega) (fun j v hj => by
    have hadd : (⟨g, off, none⟩ : Addr).add j = ⟨g, off + j, none⟩ := by unfold Addr.add; split <;> simp_all
    rw [hadd, hb.cell (off + j)]
    exact hp j v hj)
theorem Runs.indexBN {k : IntKind} {g j m c e s : Nat} {p : Int} (ho : o.op = .indexAddr T x y) (hx : E x = some (.slice (some ⟨g, 0, none⟩) m c)) (hy : E y = some (.int k p)) (hT : P.underlying T = some (.slice e)) (hs : sizeIs P e s = true) (hp : p = (j : Int)) (hlt : j < m) : Runs P E o w (.pointer (some ⟨g, s * j, none⟩)) w := by
  have h := Runs.indexN (w := w) ho hx hy hT hs hp hlt
  have e : (⟨g, 0, none⟩ : Addr).add (j * s) = ⟨g, s * j, none⟩ := by unfold Addr.add; split <;> simp_all [Nat.mul_comm]
  rwa [e] at h
end
theorem pairs_hp {ms : List Value} {k : Nat} {m : Value} (h : ms[k]? = some m) : ∀ j v, [Value.bool false, m][j]? = some v → (pairs ms).toArray[2 * k + j]? = some v := by
  obtain ⟨h1, h2⟩ := pairs_at h
  intro j v hj
  match j with
  | 0 => simp at hj; subst hj; simpa using h1
  | 1 => simp at hj; subst hj; simpa using h2
  | j + 2 => simp at hj
theorem MagU.big {w : World} {m : Value} {r : Nat} (h : MagU w m r) : BigR w (.agg [Value.bool false, m].toArray) (r : Int) := ⟨m, by rw [decide_eq_false (show ¬ (r : Int) < 0 by omega)], by rw [Int.natAbs_natCast]; exact h.mag⟩
theorem rs_lt (t : Int) (l : List Int) (j : Nat) (h : 0 < l.sum) : (rsOf t l).getD j 0 < l.sum.natAbs := by
  by_cases hj : j < l.length
  · rw [rs_getD t l j hj]
    unfold rOf
    exact Nat.mod_lt _ (by omega)
  · have e : (rsOf t l)[j]? = none := List.getElem?_eq_none (by unfold rsOf; simp; omega)
    simp [List.getD, e]; omega
theorem I_map (l : List Int) : (I l).toArray.toList = I l := rfl
theorem bool_set (l : List Bool) (j : Nat) (d : Bool) : (l.map Value.bool).toArray.setIfInBounds j (.bool d) = ((l.set j d).map Value.bool).toArray := by
  apply Array.ext'
  simp [List.map_set]
theorem bool_at {l : List Bool} {j : Nat} (h : j < l.length) : (l.map Value.bool).toArray[j]? = some (.bool (l.getD j false)) := by simp [List.getD, List.getElem?_eq_getElem h]

theorem MagR.sl {w : World} {m : Value} {n : Nat} (h : MagR w m n) : sliceV m := by obtain ⟨A, c, rfl, _⟩ := h; trivial
theorem Rests.set {w : World} {ms : List Value} {r : List Nat} {k d : Nat} {m : Value} (h : Rests w ms r k) (hk : k < ms.length) (hd : r[k]? = some d) (hm : MagU w m d) : Rests w (ms.set k m) r (k + 1) := ⟨fun j hj => by
  by_cases e : k = j
  · subst e
    exact ⟨m, by simp [hk], by rw [getD_of _ _ _ hd]; exact hm⟩
  · obtain ⟨x, h1, h2⟩ := h.mag j (by omega)
    exact ⟨x, by rw [List.getElem?_set_ne e]; exact h1, h2⟩⟩
theorem sl_set {ms : List Value} {m : Value} (h : ∀ x ∈ ms, sliceV x) (hm : sliceV m) (k : Nat) : ∀ x ∈ ms.set k m, sliceV x := by
  intro x hx
  rcases List.mem_or_eq_of_mem_set hx with h1 | rfl
  · exact h x h1
  · exact hm
/-- A part of a total, as an int64. -/
def pOf (t a v : Int) : Int := smallOf (qOf t a v)
theorem wrap_I64 (z : Int) : I64 (IntKind.i64.wrap z) := by unfold I64; rw [IntKind.wrap_i64]; omega
theorem rnd_down (t v a : Int) (h0 : 0 ≤ t) (h1 : 0 ≤ v) (h2 : 0 < a) : rndZ (t * v).natAbs (decide (t * v < 0)) a 0 = qOf t a v := by
  have h3 := Int.mul_nonneg h0 h1
  unfold rndZ qOf awayB sgn
  rw [decide_eq_false (show ¬ t * v < 0 by omega), decide_eq_false (show ¬ a < 0 by omega), Int.natAbs_mul]
  simp
theorem rest_eq (t v a : Int) (h0 : 0 ≤ t) (h1 : 0 ≤ v) (h2 : 0 < a) : t * v + -(qOf t a v * a) = (rOf t a v : Nat) := by
  unfold qOf rOf
  have h3 : ((t.natAbs * v.natAbs : Nat) : Int) = t * v := by rw [Int.natCast_mul]; rw [show (t.natAbs : Int) = t by omega, show (v.natAbs : Int) = v by omega]
  have h4 : (a.natAbs : Int) = a := by omega
  have h5 := Nat.div_add_mod' (t.natAbs * v.natAbs) a.natAbs
  have h6 : (((t.natAbs * v.natAbs / a.natAbs * a.natAbs + t.natAbs * v.natAbs % a.natAbs : Nat)) : Int) = ((t.natAbs * v.natAbs : Nat) : Int) := by rw [h5]
  rw [Int.natCast_add, Int.natCast_mul, h4, h3] at h6
  omega
theorem giveTo_two (p : List Int) (z : List Nat) : ∀ m j, (giveTo p z m).2.getD j 0 = 0 ∨ (giveTo p z m).2.getD j 0 = z.getD j 0
  | 0, j => .inr rfl
  | m + 1, j => by
    rw [giveTo_succ]
    dsimp only
    generalize bestTo (giveTo p z m).2 z.length = b
    by_cases h : b = j
    · subst h
      left
      by_cases hb : b < (giveTo p z m).2.length
      · simp [List.getD, hb]
      · simp [List.getD, List.set_eq_of_length_le (Nat.le_of_not_lt hb), List.getElem?_eq_none (Nat.le_of_not_lt hb)]
    · have := giveTo_two p z m j
      have e : ((giveTo p z m).2.set b 0).getD j 0 = (giveTo p z m).2.getD j 0 := by simp [List.getD, List.getElem?_set_ne h]
      rw [e]; exact this
theorem gotOf_len (q : List Int) (r : List Nat) (m : Nat) : (gotOf q r m).length = r.length := by unfold gotOf; simp
theorem gotOf_at (q : List Int) (r : List Nat) (m j : Nat) (h : j < r.length) : (gotOf q r m).getD j false = decide ((giveTo q r m).2.getD j 0 = 0 ∧ 0 < r.getD j 0) := by unfold gotOf; simp [List.getD, h]
theorem gotOf_zero (q : List Int) (r : List Nat) : gotOf q r 0 = List.replicate r.length false := by
  apply List.ext_getElem?
  intro j
  unfold gotOf giveTo
  rcases Nat.lt_or_ge j r.length with h | h
  · simp [h, List.getElem?_replicate]
  · simp [List.getElem?_eq_none, h]
theorem gotOf_hz (q : List Int) (r : List Nat) (m j : Nat) (h : j < r.length) : (giveTo q r m).2.getD j 0 = if (gotOf q r m).getD j false = true then 0 else r.getD j 0 := by
  rw [gotOf_at q r m j h]
  rcases giveTo_two q r m j with h1 | h1
  · rw [h1]
    clear h1
    generalize r.getD j 0 = x
    by_cases h2 : 0 < x
    · simp [h2]
    · simp [h2]; omega
  · rw [h1]
    clear h1
    generalize r.getD j 0 = x
    by_cases h2 : x = 0
    · rw [h2]; simp
    · simp [h2]
theorem gotOf_succ (q : List Int) (r : List Nat) (m b : Nat) (hb : b = bestTo (giveTo q r m).2 r.length) (hlt : b < r.length) (hp : 0 < (giveTo q r m).2.getD b 0) : gotOf q r (m + 1) = (gotOf q r m).set b true := by
  apply List.ext_getElem?
  intro j
  rcases Nat.lt_or_ge j r.length with h | h
  · have e1 : (gotOf q r (m + 1))[j]? = some ((gotOf q r (m + 1)).getD j false) := by simp [List.getD, List.getElem?_eq_getElem (show j < (gotOf q r (m + 1)).length by rw [gotOf_len]; exact h)]
    have e2 : ((gotOf q r m).set b true)[j]? = some (((gotOf q r m).set b true).getD j false) := by simp [List.getD, List.getElem?_eq_getElem (show j < ((gotOf q r m).set b true).length by rw [List.length_set, gotOf_len]; exact h)]
    rw [e1, e2, gotOf_at _ _ _ _ h, giveTo_succ, ← hb]
    dsimp only
    congr 1
    have hl : (giveTo q r m).2.length = r.length := giveTo_len2 q r m
    by_cases hbj : b = j
    · subst hbj
      have hr : 0 < r.getD b 0 := by rcases giveTo_two q r m b with h1 | h1 <;> omega
      rw [getD_setAt (gotOf q r m) _ _ _ (by rw [gotOf_len]; exact h), getD_setAt (giveTo q r m).2 _ _ _ (by rw [hl]; exact h)]
      exact decide_eq_true ⟨rfl, hr⟩
    · rw [getD_setOff _ _ _ _ _ hbj, getD_setOff _ _ _ _ _ hbj, gotOf_at _ _ _ _ h]
  · rw [List.getElem?_eq_none (by rw [gotOf_len]; exact h), List.getElem?_eq_none (by rw [List.length_set, gotOf_len]; exact h)]
end Go.Proofs.Ytpdeihienkbeeaa
