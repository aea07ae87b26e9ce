/-
  debentureref01's sub of digits, Of, sign, Minus, Plus, Cmp: what each answers. Condition: the digits are a number's, not too many.
-/
import Derived.Test.YtijaldpmpjapiaaBigC
namespace Go.Proofs.Ytijaldpmpjapiaa
open Go.RowKit

theorem sub_arith (P o t s b v x y b' : Nat) (h : o + s = t + P * b + 0) (hv : v + b + y = 65536 + x) (hb : b' = 1 - v / 65536) (hv2 : v < 131072) :
    o + P * (v % 65536) + (s + P * y + P * b) = t + P * x + P * 65536 * b' + P * b := by
  have e0 : v % 65536 + 65536 * (v / 65536) = v := Nat.mod_add_div v 65536
  have e3 : v % 65536 + b + y = x + 65536 * b' := by omega
  have e4 : P * (v % 65536) + P * b + P * y = P * x + P * (65536 * b') := by rw [← Nat.mul_add, ← Nat.mul_add, ← Nat.mul_add, e3]
  rw [← Nat.mul_assoc] at e4
  omega

set_option maxHeartbeats 800000 in
set_option maxRecDepth 100000 in
theorem sub_any (x y : Value) (a b : Nat) (w : World) (hx : MagR w x a) (hy : MagR w y b) (ha : (digs a).length ≤ 1000000) (hle : b ≤ a) :
    Calls Try.prog 142 #[x, y] w fun e w' => ∃ v, e = .returned v ∧ MagR w' v (a - b) ∧ Below w.heap.size w w' ∧ Fresh w.heap.size v := by
  obtain ⟨A, ca, rfl, hca, hca2, hra⟩ := hx
  obtain ⟨B, cb, rfl, hcb, hcb2, hrb⟩ := hy
  obtain ⟨i0, hi0, hz0, hz1, hz2⟩ := info_parts infoU
  have hmn : (digs b).length ≤ (digs a).length := by
    have := lt_of_digs_len a
    exact digs_len_le b _ (by omega)
  generalize hma : (digs a).length = m at *
  generalize hmb : (digs b).length = n at *
  have Hma := Lib.hid hma
  have Hmb := Lib.hid hmb
  clear hma hmb
  go_enter Try.func142, Try.ntmps142
  go_wp2_with fail
  go_loopw [5, 6, 7] (fun v c i wr => ∃ (k bo : Nat) (l : List Nat), k ≤ m ∧ bo ≤ 1 ∧ i = .int .i64 k ∧ c = .int .u64 bo ∧ l.length = k ∧ (∀ d ∈ l, d < 65536) ∧ val l + val ((digs b).take k) = val ((digs a).take k) + 65536 ^ k * bo ∧
      wr.ownsRow w.heap.size 124 1 v k (U l) ∧ Below w.heap.size w wr) (fun _ _ i _ => m - (intOf i).toNat)
  case atStart => exact ⟨0, 0, [], by omega, by omega, rfl, rfl, rfl, by simp, by simp [val], World.ownsRow_nil _ _ _ _, Below.refl _ _⟩
  case round =>
    obtain ⟨k, bo, l, hk, hbo, rfl, rfl, hl, hd, hv, hown, hbl⟩ := hrel
    have Hl := Lib.hid hl
    have Hd := Lib.hid hd
    have Hv := Lib.hid hv
    have hz := hbl.size
    clear hl hd hv
    by_cases h1 : k < m
    · obtain ⟨ad, p, rfl, hbp, hp, hcp⟩ := hra.dig hbl (Nat.le_refl _) h1
      have Hp := Lib.hid (getD_of _ _ _ hp)
      have hp2 : p < 65536 := digs_lt a p (List.mem_of_getElem? hp)
      clear hp
      by_cases h2 : k < n
      · obtain ⟨bd, q, rfl, hbq, hq, hcq⟩ := hrb.dig hbl (Nat.le_refl _) h2
        have Hq := Lib.hid (getD_of _ _ _ hq)
        have hq2 : q < 65536 := digs_lt b q (List.mem_of_getElem? hq)
        clear hq
        go_wp2_with (at_builtin; refine wpList_append_one rfl (.tmp 32) (.tmp 35) _ rfl w.heap.size _ i0 _ 1 8 Try.underlying131 hi0 hz0 hz1 hz2 rfl (by decide) wr _ _ _ _ rfl hown _ rfl rfl rfl (by simp [Value.oneCell']) (by simp only [maxLen]; omega) (by omega) ?_; intro v' w' hown' hb' hz')
        go_roundw
        case rel =>
          refine ⟨k + 1, 1 - (65536 + p - bo - q) / 65536, l ++ [(65536 + p - bo - q) % 65536], by omega, by omega, by go_num, int_eq (by omega), by rw [List.length_append, Hl.out]; rfl, snoc_lt Hd.out _, ?_, own_snoc hown' (by omega), hb' _ _ (Nat.le_refl _) hbl⟩
          rw [val_snoc, val_take_succ, val_take_succ, Hl.out, Nat.pow_succ, Hp.out, Hq.out]
          have := sub_arith (65536 ^ k) _ _ _ _ (65536 + p - bo - q) p q _ Hv.out (by omega) rfl (by omega)
          omega
        case measure => simp [intOf]; omega
      · have Hq := Lib.hid (getD_out (digs b) k (by rw [Hmb.out]; omega))
        go_wp2_with (at_builtin; refine wpList_append_one rfl (.tmp 32) (.tmp 35) _ rfl w.heap.size _ i0 _ 1 8 Try.underlying131 hi0 hz0 hz1 hz2 rfl (by decide) wr _ _ _ _ rfl hown _ rfl rfl rfl (by simp [Value.oneCell']) (by simp only [maxLen]; omega) (by omega) ?_; intro v' w' hown' hb' hz')
        go_roundw
        case rel =>
          refine ⟨k + 1, 1 - (65536 + p - bo) / 65536, l ++ [(65536 + p - bo) % 65536], by omega, by omega, by go_num, int_eq (by omega), by rw [List.length_append, Hl.out]; rfl, snoc_lt Hd.out _, ?_, own_snoc hown' (by omega), hb' _ _ (Nat.le_refl _) hbl⟩
          rw [val_snoc, val_take_succ, val_take_succ, Hl.out, Nat.pow_succ, Hp.out, Hq.out]
          have := sub_arith (65536 ^ k) _ _ _ _ (65536 + p - bo) p 0 _ Hv.out (by omega) rfl (by omega)
          omega
        case measure => simp [intOf]; omega
    · obtain rfl : k = m := by omega
      have hval : val l = a - b := by
        have hval := Hv.out
        rw [List.take_of_length_le (show (digs b).length ≤ k by rw [Hmb.out]; omega), List.take_of_length_le (show (digs a).length ≤ k by rw [Hma.out]; omega), val_digs, val_digs] at hval
        have hlt := val_lt l Hd.out
        rw [Hl.out] at hlt
        rcases Nat.lt_or_ge 0 bo with h | h
        · obtain rfl : bo = 1 := by omega
          omega
        · obtain rfl : bo = 0 := by omega
          omega
      have Hval := Lib.hid hval
      clear hval
      obtain ⟨A', c', rfl, hc1, hc2, hrd, hfr⟩ := reads_at_own hown
      go_wp2_with fail
      refine (trim_any wr.heap.size A' k c' l _ hrd (Nat.le_refl _) Hd.out (by omega) hc1).mono ?_
      rintro e w1 ⟨rfl, rfl⟩
      go_wp2_with fail
      go_ret
      exact ⟨_, rfl, mag_of_trim hrd Hd.out hc1 hc2 Hval.out, hbl, hfr _⟩
end Go.Proofs.Ytijaldpmpjapiaa
