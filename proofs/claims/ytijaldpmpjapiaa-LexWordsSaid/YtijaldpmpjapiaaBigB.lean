/-
  debentureref01's cmp, add and sub of digits: what each answers. Condition: the digits are a number's, not too many.
-/
import Derived.Test.YtijaldpmpjapiaaBigA
namespace Go.Proofs.Ytijaldpmpjapiaa
open Go.RowKit

/-- A slice that holds a number's digits. -/
def MagR (w : World) (v : Value) (n : Nat) : Prop := ∃ A c, v = .slice A (digs n).length c ∧ (digs n).length ≤ c ∧ c ≤ 9223372036854775807 ∧ Reads w w.heap.size 1 A (digs n).length (U (digs n))
/-- Its block is none of the old ones. -/
def Fresh (base : Nat) (v : Value) : Prop := match v with
  | .slice (some A) _ _ => base ≤ A.block
  | _ => True
theorem Fresh.mono {b b' : Nat} {v : Value} (h : Fresh b v) (hb : b' ≤ b) : Fresh b' v := by
  unfold Fresh at *
  split <;> first | trivial | (simp only at h; omega)
theorem MagR.step {w w' : World} {v : Value} {n : Nat} (h : MagR w v n) (hb : Below w.heap.size w w') : MagR w' v n := by
  obtain ⟨A, c, e, h1, h2, h3⟩ := h
  exact ⟨A, c, e, h1, h2, (h3.below hb).more hb.size⟩
theorem MagR.drewN {w : World} {v : Value} {n : Nat} (h : MagR w v n) (k : Nat) : MagR (w.drewN k) v n := h
theorem MagR.nil (w : World) (c : Nat) (hc : c ≤ 9223372036854775807) : MagR w (.slice none 0 c) 0 := ⟨none, c, by rw [digs_zero]; rfl, by rw [digs_zero]; simp, hc, by rw [digs_zero]; exact Reads.none_⟩

theorem val_split (l : List Nat) (i d : Nat) (h : l[i]? = some d) : val l = val (l.take i) + 65536 ^ i * (d + 65536 * val (l.drop (i + 1))) := by
  obtain ⟨hi, rfl⟩ := List.getElem?_eq_some_iff.1 h
  have e := val_append (l.take i) (l.drop i)
  rw [List.take_append_drop, List.length_take, Nat.min_eq_left (by omega)] at e
  rw [List.drop_eq_getElem_cons hi, val] at e
  exact e
theorem val_lt_at (a b : List Nat) (i x y : Nat) (ha : ∀ d ∈ a, d < 65536) (hx : a[i]? = some x) (hy : b[i]? = some y) (hlt : x < y) (hd : a.drop (i + 1) = b.drop (i + 1)) : val a < val b := by
  rw [val_split a i x hx, val_split b i y hy, hd]
  obtain ⟨hi, -⟩ := List.getElem?_eq_some_iff.1 hx
  have h1 := val_lt (a.take i) (fun d h => ha d (List.mem_of_mem_take h))
  rw [List.length_take, Nat.min_eq_left (by omega)] at h1
  have h2 : 65536 ^ i * (x + 65536 * val (b.drop (i + 1)) + 1) ≤ 65536 ^ i * (y + 65536 * val (b.drop (i + 1))) := Nat.mul_le_mul_left _ (by omega)
  rw [Nat.mul_add _ _ 1] at h2
  omega
theorem lt_of_len (a b : Nat) (h : (digs a).length < (digs b).length) : a < b := by
  rcases Nat.lt_or_ge a b with h1 | h1
  · exact h1
  · exfalso
    have h2 := lt_of_digs_len a
    have := digs_len_le b _ (Nat.lt_of_le_of_lt h1 h2)
    omega
theorem drop_step {α : Type} (a b : List α) (i : Nat) (x : α) (hx : a[i]? = some x) (hy : b[i]? = some x) (h : a.drop (i + 1) = b.drop (i + 1)) : a.drop i = b.drop i := by
  obtain ⟨h1, e1⟩ := List.getElem?_eq_some_iff.1 hx
  obtain ⟨h2, e2⟩ := List.getElem?_eq_some_iff.1 hy
  rw [List.drop_eq_getElem_cons h1, List.drop_eq_getElem_cons h2, e1, e2, h]

/-- How two numbers stand. -/
def cmpZ (a b : Int) : Int := if a < b then -1 else if a = b then 0 else 1
def cmpN (a b : Nat) : Int := if a < b then -1 else if a = b then 0 else 1

set_option maxHeartbeats 400000 in
theorem cmp_any (x y : Value) (a b : Nat) (w : World) (hx : MagR w x a) (hy : MagR w y b) (ha : (digs a).length ≤ 1073741824) (hb : (digs b).length ≤ 1073741824) :
    Calls Try.prog 141 #[x, y] w fun e w' => e = .returned (.int .i64 (cmpN a b)) ∧ Drawn w w' := by
  obtain ⟨A, ca, rfl, hca, hca2, hra⟩ := hx
  obtain ⟨B, cb, rfl, hcb, hcb2, hrb⟩ := hy
  go_enter Try.func141, Try.ntmps141
  have Hla := Lib.hid (show (digs a).length = (digs a).length from rfl)
  rcases Nat.lt_trichotomy (digs a).length (digs b).length with hl | hl | hl
  · have e := Lib.hid (show cmpN a b = -1 by unfold cmpN; rw [if_pos (lt_of_len a b hl)])
    go_wp2_with fail
    go_ret
    rw [e.out]
    exact ⟨rfl, Drawn.refl _⟩
  · generalize hm : (digs a).length = m at *
    have hne : ((m : Int) != ((digs b).length : Int)) = false := by simp; omega
    rw [← hl] at hrb hb hcb ⊢
    have Ha := Lib.hid hm
    have Hb := Lib.hid hl
    clear hm hl hne
    go_wp2_with fail
    go_loopw [5] (fun i wr => ∃ k : Nat, k ≤ m ∧ i = .int .i64 ((k : Int) - 1) ∧ (digs a).drop k = (digs b).drop k ∧ Drawn w wr) (fun i _ => (intOf i + 1).toNat)
    case atStart => exact ⟨m, Nat.le_refl _, rfl, by rw [List.drop_of_length_le (by rw [Ha.out]; omega), List.drop_of_length_le (by rw [← Hb.out]; omega)], Drawn.refl _⟩
    case round =>
      obtain ⟨k, hk, rfl, hd, hdr⟩ := hrel
      have Hd := Lib.hid hd
      clear hd
      rcases Nat.eq_zero_or_pos k with h0 | h0
      · subst h0
        have hab : a = b := by have := congrArg val Hd.out; simpa [val_digs] using this
        have e := Lib.hid (show cmpN a b = 0 by unfold cmpN; rw [if_neg (by omega), if_pos hab])
        go_wp2_with fail
        go_ret
        rw [e.out]
        exact ⟨rfl, hdr⟩
      · obtain ⟨j, rfl⟩ : ∃ j, k = j + 1 := ⟨k - 1, by omega⟩
        obtain ⟨ad, p, rfl, hbl, hp, hcp⟩ := hra.dig (hdr.below w.heap.size) (Nat.le_refl _) (show j < m by omega)
        obtain ⟨bd, q, rfl, hbl2, hq, hcq⟩ := hrb.dig (hdr.below w.heap.size) (Nat.le_refl _) (show j < m by omega)
        have ej : ((j + 1 : Nat) : Int) - 1 = (j : Int) := by omega
        rw [ej]
        have Hp := Lib.hid hp
        have Hq := Lib.hid hq
        clear hp hq
        rcases Nat.lt_trichotomy p q with hl | hl | hl
        · have e := Lib.hid (show cmpN a b = -1 by
            have := val_lt_at (digs a) (digs b) j p q (digs_lt a) Hp.out Hq.out hl Hd.out
            rw [val_digs, val_digs] at this
            unfold cmpN; rw [if_pos this])
          go_wp2_with fail
          go_quiet (fail)
          go_wp2_with fail
          go_ret
          rw [e.out]
          exact ⟨rfl, hdr.drewN _⟩
        · subst hl
          go_wp2_with fail
          go_quiet (fail)
          go_wp2_with fail
          go_quiet (fail)
          go_wp2_with fail
          go_roundw
          case rel => exact ⟨j, by omega, by go_num, drop_step _ _ j p Hp.out Hq.out Hd.out, hdr.drewN _⟩
          case measure => simp [intOf]
        · have e := Lib.hid (show cmpN a b = 1 by
            have := val_lt_at (digs b) (digs a) j q p (digs_lt b) Hq.out Hp.out hl Hd.out.symm
            rw [val_digs, val_digs] at this
            unfold cmpN; rw [if_neg (by omega), if_neg (by omega)])
          go_wp2_with fail
          go_quiet (fail)
          go_wp2_with fail
          go_quiet (fail)
          go_wp2_with fail
          go_ret
          rw [e.out]
          exact ⟨rfl, (hdr.drewN _).drewN _⟩
  · have e := Lib.hid (show cmpN a b = 1 by unfold cmpN; have := lt_of_len b a hl; rw [if_neg (by omega), if_neg (by omega)])
    go_wp2_with fail
    go_ret
    rw [e.out]
    exact ⟨rfl, Drawn.refl _⟩
end Go.Proofs.Ytijaldpmpjapiaa
