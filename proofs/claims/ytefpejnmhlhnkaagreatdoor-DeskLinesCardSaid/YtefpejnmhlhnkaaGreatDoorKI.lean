/-
  Texts: their bytes as a list; slices of them, bytes out of them. No condition.
-/
import Derived.Test.YtefpejnmhlhnkaaGreatDoorKH
import Derived.Lib.Bytealg
import Derived.Laws.IdiomStrings
set_option linter.unusedSectionVars false
namespace Go.Proofs.YtefpejnmhlhnkaaGreatDoor
open Go.RowKit

theorem strOf_size (l : List Nat) : (strOf l).size = l.length := by simp [strOf, ByteArray.size]
theorem strOf_data (l : List Nat) : (strOf l).data.toList = l.map UInt8.ofNat := by simp [strOf]
theorem bytes_ext {a b : ByteArray} (h : a.data.toList = b.data.toList) : a = b := by
  cases a; cases b; congr 1; exact Array.ext' h
theorem strOf_get {l : List Nat} {j c : Nat} (h : l[j]? = some c) : (strOf l)[j]? = some (UInt8.ofNat c) := by
  have hj : j < l.length := (List.getElem?_eq_some_iff.1 h).1
  have hs : j < (strOf l).size := by rw [strOf_size]; exact hj
  rw [getElem?_pos (strOf l) j hs]
  congr 1
  have e : l[j] = c := (List.getElem?_eq_some_iff.1 h).2
  show (strOf l).data[j]'hs = _
  simp [strOf, e]
theorem strOf_append (a b : List Nat) : strOf a ++ strOf b = strOf (a ++ b) := by
  apply bytes_ext
  rw [ByteArray.toList_data_append, strOf_data, strOf_data, strOf_data, List.map_append]
theorem strOf_extract (l : List Nat) (a b : Nat) : (strOf l).extract a b = strOf ((l.take b).drop a) := by
  apply bytes_ext
  rw [strOf_data, ByteArray.data_extract, Array.toList_extract, strOf_data, List.map_drop, List.map_take]
  simp [List.extract_eq_take_drop, List.drop_take]
theorem ofNat_inj {a b : Nat} (ha : a < 256) (hb : b < 256) (h : UInt8.ofNat a = UInt8.ofNat b) : a = b := by
  have := congrArg UInt8.toNat h
  simpa [Nat.mod_eq_of_lt ha, Nat.mod_eq_of_lt hb] using this
theorem map_ofNat_inj : ∀ {a b : List Nat}, (∀ x ∈ a, x < 256) → (∀ x ∈ b, x < 256) → a.map UInt8.ofNat = b.map UInt8.ofNat → a = b
  | [], [], _, _, _ => rfl
  | [], _ :: _, _, _, h => by simp at h
  | _ :: _, [], _, _, h => by simp at h
  | x :: a, y :: b, ha, hb, h => by
    rw [List.map_cons, List.map_cons] at h
    injection h with h1 h2
    rw [ofNat_inj (ha x (by simp)) (hb y (by simp)) h1, map_ofNat_inj (fun z hz => ha z (by simp [hz])) (fun z hz => hb z (by simp [hz])) h2]
theorem strOf_inj {a b : List Nat} (ha : ∀ x ∈ a, x < 256) (hb : ∀ x ∈ b, x < 256) (h : strOf a = strOf b) : a = b :=
  map_ofNat_inj ha hb (by rw [← strOf_data, ← strOf_data, h])
theorem toList_loop (s : ByteArray) : ∀ n i r, s.size - i = n → ByteArray.toList.loop s i r = r.reverse ++ s.data.toList.drop i := by
  intro n
  induction n with
  | zero =>
    intro i r h
    unfold ByteArray.toList.loop
    rw [if_neg (by omega), List.drop_of_length_le (by have : s.data.toList.length = s.size := Array.length_toList
                                                      omega), List.append_nil]
  | succ n ih =>
    intro i r h
    unfold ByteArray.toList.loop
    have hi : i < s.size := by omega
    have hl : i < s.data.toList.length := by rw [Array.length_toList]; exact hi
    rw [if_pos hi, ih _ _ (by omega), List.drop_eq_getElem_cons hl]
    have : s.get! i = s.data.toList[i] := by
      cases s with
      | mk d => simp [ByteArray.get!, ByteArray.size] at hi ⊢; simp [getElem!_pos, hi]
    rw [this]
    simp
theorem toList_data (s : ByteArray) : s.toList = s.data.toList := by
  unfold ByteArray.toList
  rw [toList_loop s _ 0 [] rfl]
  simp
theorem strOf_beq {a b : List Nat} (ha : ∀ x ∈ a, x < 256) (hb : ∀ x ∈ b, x < 256) : ((strOf a).toList == (strOf b).toList) = decide (a = b) := by
  rw [toList_data, toList_data, strOf_data, strOf_data, Bool.eq_iff_iff]
  simp
  constructor
  · exact map_ofNat_inj ha hb
  · intro h; rw [h]
/-- A text's bytes. -/
def bytesOf (s : ByteArray) : List Nat := s.data.toList.map UInt8.toNat
theorem bytesOf_lt (s : ByteArray) : ∀ x ∈ bytesOf s, x < 256 := by
  intro x hx
  obtain ⟨c, _, rfl⟩ := List.mem_map.1 hx
  exact c.toNat_lt
theorem strOf_bytesOf (s : ByteArray) : strOf (bytesOf s) = s := by
  apply bytes_ext
  rw [strOf_data]
  unfold bytesOf
  rw [List.map_map]
  conv => rhs; rw [← List.map_id s.data.toList]
  apply List.map_congr_left
  intro c _
  simp
theorem ofNat_toNat {c : Nat} (h : c < 256) : (UInt8.ofNat c).toNat = c := by simp [Nat.mod_eq_of_lt h]
/-- The place of the first byte of a kind; the length: there is none. -/
def idx (l : List Nat) (c : Nat) : Nat := l.findIdx (· == c)
theorem indexByte_idx (c : Nat) (hc : c < 256) : ∀ l : List Nat, (∀ x ∈ l, x < 256) → Lib.indexByte (l.map UInt8.ofNat) (UInt8.ofNat c) = if c ∈ l then (idx l c : Int) else -1
  | [], _ => by simp [Lib.indexByte]
  | x :: l, h => by
    have ih := indexByte_idx c hc l fun z hz => h z (by simp [hz])
    rw [List.map_cons, Lib.indexByte, ih]
    by_cases hx : x = c
    · subst hx
      simp [idx, List.findIdx_cons]
    · have hne : (UInt8.ofNat x == UInt8.ofNat c) = false := by
        rw [beq_eq_false_iff_ne]
        intro e
        exact hx (ofNat_inj (h x (by simp)) hc e)
      have hcons : idx (x :: l) c = idx l c + 1 := by
        have hxc : (x == c) = false := beq_eq_false_iff_ne.2 hx
        unfold idx
        rw [List.findIdx_cons, hxc]
        rfl
      rw [hne, hcons]
      by_cases hm : c ∈ l
      · have e : ((idx l c : Int) == -1) = false := by rw [beq_eq_false_iff_ne]; omega
        rw [if_pos hm, if_pos (List.mem_cons_of_mem _ hm), e]
        rfl
      · have hno : ¬ c ∈ x :: l := fun h => by
          rcases List.mem_cons.1 h with h | h
          · exact hx h.symm
          · exact hm h
        rw [if_neg hno, if_neg hm]
        rfl
theorem idx_split (l : List Nat) (c : Nat) (h : c ∈ l) : idx l c < l.length ∧ c ∉ l.take (idx l c) ∧ l = l.take (idx l c) ++ c :: l.drop (idx l c + 1) := by
  have h1 : idx l c < l.length := List.findIdx_lt_length.2 ⟨c, h, by simp⟩
  have h2 : l[idx l c] = c := by
    have := List.findIdx_getElem (p := (· == c)) (xs := l) (w := h1)
    exact eq_of_beq this
  refine ⟨h1, ?_, ?_⟩
  · intro hm
    obtain ⟨j, hj, he⟩ := List.getElem_of_mem hm
    rw [List.length_take] at hj
    have := List.not_of_lt_findIdx (p := (· == c)) (xs := l) (i := j) (show j < idx l c by omega)
    rw [List.getElem_take] at he
    simp [he] at this
  · conv => lhs; rw [← List.take_append_drop (idx l c) l]
    rw [List.drop_eq_getElem_cons h1, h2]
section
variable {P : Program} {ops : Array Oper} {Q : Exit → Act → World → Prop} {rest : List Oper} {E : Operand → Option Value} {o : Oper} {n d : Nat} {F : List (Nat × Value)} {w w' : World} {v : Value} {x y z : Operand} {T T' : TypeId}
variable [Inhabited (List Deferred)]
theorem Runs.indexL {k : IntKind} {p : Int} {l : List Nat} {j c : Nat} (ho : o.op = .index T x y) (hx : E x = some (.string (strOf l))) (hy : E y = some (.int k p)) (hT : P.underlying T = some .string) (hp : p = (j : Int)) (hl : l[j]? = some c) (hc : c < 256) : Runs P E o w (.int .u8 (c : Int)) w :=
  (Runs.indexS ho hx hy hT hp (strOf_get hl)).cast (by rw [ofNat_toNat hc])
theorem Runs.sliceFrom {k : IntKind} {p : Int} {l : List Nat} {j : Nat} (ho : o.op = .slice T x (some y) none none) (hx : E x = some (.string (strOf l))) (hy : E y = some (.int k p)) (hT : P.underlying T = some .string) (hp : p = (j : Int)) (hj : j ≤ l.length) : Runs P E o w (.string (strOf (l.drop j))) w := fun ρ h => by
  subst hp
  have := run_slice_string_l (P := P) w T (strOf l) hT k (j : Int) (by omega) (by rw [strOf_size]; omega)
  rw [Int.toNat_natCast, strOf_extract, strOf_size, List.take_length] at this
  unfold execOp; simp only [ho, Option.map_some, Option.map_none]; rw [h _ _ hx, h _ _ hy]
  simp only [Sem.run_bind, run_sliceAt_string (h := hT), this, Result.andThen_ok]; rfl
theorem Runs.sliceTo {k : IntKind} {p : Int} {l : List Nat} {j : Nat} (ho : o.op = .slice T x none (some y) none) (hx : E x = some (.string (strOf l))) (hy : E y = some (.int k p)) (hT : P.underlying T = some .string) (hp : p = (j : Int)) (hj : j ≤ l.length) : Runs P E o w (.string (strOf (l.take j))) w := fun ρ h => by
  subst hp
  have := run_slice_string_h (P := P) w T (strOf l) hT k (j : Int) (by omega) (by rw [strOf_size]; omega)
  rw [Int.toNat_natCast, strOf_extract, List.drop_zero] at this
  unfold execOp; simp only [ho, Option.map_some, Option.map_none]; rw [h _ _ hx, h _ _ hy]
  simp only [Sem.run_bind, run_sliceAt_string (h := hT), this, Result.andThen_ok]; rfl
theorem Runs.sliceAtL {k k' : IntKind} {p q : Int} {l : List Nat} {i j : Nat} (ho : o.op = .slice T x (some y) (some z) none) (hx : E x = some (.string (strOf l))) (hy : E y = some (.int k p)) (hz : E z = some (.int k' q)) (hT : P.underlying T = some .string) (hp : p = (i : Int)) (hq : q = (j : Int)) (hi : i ≤ j) (hj : j ≤ l.length) : Runs P E o w (.string (strOf ((l.take j).drop i))) w := fun ρ h => by
  subst hp hq
  have := run_slice_string (P := P) w T (strOf l) k k' (i : Int) (j : Int) hT (by omega) (by omega) (by rw [strOf_size]; omega)
  rw [Int.toNat_natCast, Int.toNat_natCast, strOf_extract] at this
  unfold execOp; simp only [ho, Option.map_some, Option.map_none]; rw [h _ _ hx, h _ _ hy, h _ _ hz]
  simp only [Sem.run_bind, run_sliceAt_string (h := hT), this, Result.andThen_ok]; rfl
theorem Runs.addL {a b : List Nat} (ho : o.op = .binOp .add T x y T') (hx : E x = some (.string (strOf a))) (hy : E y = some (.string (strOf b))) (hs : a.length + b.length ≤ 9223372036854775807) : Runs P E o w (.string (strOf (a ++ b))) w :=
  (Runs.addS ho hx hy (by rw [strOf_size, strOf_size]; exact hs)).cast (by rw [strOf_append])
theorem Runs.eqlL {a b : List Nat} (ho : o.op = .binOp .eql T x y T') (hx : E x = some (.string (strOf a))) (hy : E y = some (.string (strOf b))) (ha : ∀ x ∈ a, x < 256) (hb : ∀ x ∈ b, x < 256) : Runs P E o w (.bool (decide (a = b))) w :=
  (Runs.eqlS ho hx hy).cast (by rw [strOf_beq ha hb])
theorem Runs.neqL {a b : List Nat} (ho : o.op = .binOp .neq T x y T') (hx : E x = some (.string (strOf a))) (hy : E y = some (.string (strOf b))) (ha : ∀ x ∈ a, x < 256) (hb : ∀ x ∈ b, x < 256) : Runs P E o w (.bool (decide (a ≠ b))) w :=
  (Runs.neqS ho hx hy).cast (by rw [strOf_beq ha hb]; by_cases h : a = b <;> simp [h])
theorem Runs.lenL {t : TypeId} {l : List Nat} (ho : o.op = .call { callee := .builtin .len, args := #[x], argTypes := #[t] }) (hx : E x = some (.string (strOf l))) (hT : P.underlying t = some .string) : Runs P E o w (.int .i64 (l.length : Int)) w :=
  (Runs.lenS ho hx hT).cast (by rw [strOf_size])
end
section
variable {P : Program} {ops : Array Oper} {Q : Exit → Act → World → Prop} {rest : List Oper} {E : Operand → Option Value} {o : Oper} {n d : Nat} {F : List (Nat × Value)} {w w' : World} {v : Value} {x y z : Operand} {T T' : TypeId}
theorem Post.end3 {fn : Func} {R : Ending → World → Prop} {t u s : Nat} {v' v'' : Value} {e : Exit} (hr : fn.results = #[.tmp t, .tmp u, .tmp s]) (hl : look F t = some v) (hl' : look F u = some v') (hl'' : look F s = some v'') (he : e = .ret ∨ e = .normal) (h : R (.returned (.tuple #[v, v', v''])) w) : Post (bodyPost P fn R) e n F w :=
  Post.end_ (fun a ha => by rw [results_tmp3 hr]; simp [ha.slot t v hl, ha.slot u v' hl', ha.slot s v'' hl'']) he h
end
section
variable {P : Program} {ops : Array Oper} {Q : Exit → Act → World → Prop} {rest : List Oper} {E : Operand → Option Value} {o : Oper} {n d : Nat} {F : List (Nat × Value)} {w w' : World} {v : Value} {x y z : Operand} {T T' : TypeId}
variable [Inhabited (List Deferred)]
/-- A text as bytes: a new block. -/
structure NewB (w w' : World) (g : Nat) (l : List Nat) : Prop where
  ge : w.heap.size ≤ g
  lt : g < w'.heap.size
  below : Below w.heap.size w w'
  reads : Reads w' w'.heap.size 1 (some ⟨g, 0, none⟩) l.length (Bt l)
theorem Seq.convSB {e : TypeId} {l : List Nat} (ho : o.op = .convert T T' x) (hx : evF F x = some (.string (strOf l))) (hS : P.underlying T = some .string) (hT : P.underlying T' = some (.slice e)) (he : P.underlying e = some (.int .u8)) (hl : ∀ x ∈ l, x < 256)
    (hg : o.guard = none) (hd : o.dst = some d) (hn : Nat.blt d n = true)
    (h : ∀ g c w', l.length ≤ c → NewB w w' g l → Seq P ops Q rest n ((d, .slice (some ⟨g, 0, none⟩) l.length c) :: F) w') : Seq P ops Q (o :: rest) n F w := by
  have hrun := run_bytes_of_string (P := P) w T T' e (strOf l) hS hT he
  generalize hc : grownCap w (strOf l).size 0 e = c at hrun
  have hcl : l.length ≤ c := by
    rw [← hc, ← strOf_size]
    unfold grownCap
    exact Nat.le_add_right _ _
  rw [strOf_size] at hrun
  refine Seq.val (w' := w.drew.alloc (.cells (bytesRow (strOf l) c) e ((bytesRow (strOf l) c).size, (bytesRow (strOf l) c).size + 1))) (fun ρ hρ => ?_) hg hd hn (h w.heap.size c _ hcl ⟨Nat.le_refl _, ?_, ?_, ?_⟩)
  · unfold execOp
    simp only [ho]; rw [hρ _ _ hx]
    simp only [Sem.run_bind, hrun, Result.andThen_ok]; rfl
  · show w.heap.size < (w.heap.push _).size
    rw [Array.size_push]; omega
  · exact ((Below.refl w.heap.size w).drewN 1).alloc (Nat.le_refl _) _
  · refine ⟨by rw [length_Bt]; omega, fun _ => ⟨_, rfl, (show w.heap.size < (w.heap.push _).size by rw [Array.size_push]; omega), fun j u hu => ?_⟩⟩
    have hplain : (⟨w.heap.size, 0, none⟩ : Addr).add j = ⟨w.heap.size, j, none⟩ := by unfold Addr.add; split <;> simp_all
    rw [hplain, cell_of_row _ _ _ _ _ _ (show (w.heap.push _)[w.heap.size]? = some _ from Array.getElem?_push_size)]
    rw [get_Bt] at hu
    cases hlj : l[j]? with
    | none => rw [hlj] at hu; cases hu
    | some b =>
      rw [hlj] at hu
      injection hu with hu
      subst hu
      have hj : j < l.length := (List.getElem?_eq_some_iff.1 hlj).1
      have hj2 : j < (strOf l).data.size := by show j < (strOf l).size; rw [strOf_size]; exact hj
      rw [bytesRow_at _ _ j hj2]
      have e : (strOf l).data[j] = UInt8.ofNat b := by
        have := strOf_get hlj
        rw [getElem?_pos (strOf l) j (by rw [strOf_size]; exact hj)] at this
        exact Option.some.inj this
      rw [e, ofNat_toNat (hl b (List.mem_of_getElem? hlj))]
end
end Go.Proofs.YtefpejnmhlhnkaaGreatDoor
