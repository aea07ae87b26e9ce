/-
  debentureref01's add and sub of digits: what each answers. Condition: the digits are a number's, not too many.
-/
import Derived.Test.YtijaldpmpjapiaaBigB
namespace Go.Proofs.Ytijaldpmpjapiaa
open Go.RowKit

theorem infoU : (Try.prog.info? 124).map (fun i => (i.zero, i.size, i.bytes)) = some (some (.int .u64 0), 1, 8) := by kernel_rfl
theorem U_snoc (l : List Nat) (d : Nat) (z : Int) (h : z = d) : U l ++ (#[Value.int .u64 z] : Array Value).toList = U (l ++ [d]) := by rw [U_append, h]; rfl
theorem own_snoc {w : World} {base : Nat} {e : TypeId} {n : Nat} {v : Value} {l : List Nat} {d : Nat} {z : Int} (h : w.ownsRow base e 1 v n (U l ++ (#[Value.int .u64 z] : Array Value).toList)) (hz : z = d) : w.ownsRow base e 1 v n (U (l ++ [d])) := U_snoc l d z hz ▸ h
theorem val_take_succ (l : List Nat) (k : Nat) : val (l.take (k + 1)) = val (l.take k) + 65536 ^ k * l.getD k 0 := by
  rcases Nat.lt_or_ge k l.length with h | h
  · rw [List.take_add_one, List.getElem?_eq_getElem h]
    show val (_ ++ [_]) = _
    rw [val_snoc, List.length_take, Nat.min_eq_left (by omega)]
    simp [List.getD, List.getElem?_eq_getElem h]
  · rw [List.take_of_length_le (by omega), List.take_of_length_le (by omega)]
    simp [List.getD, List.getElem?_eq_none h]
theorem getD_lt (n k : Nat) : (digs n).getD k 0 < 65536 := by
  rcases Nat.lt_or_ge k (digs n).length with h | h
  · have := digs_lt n _ (List.getElem_mem h)
    simpa [List.getD, List.getElem?_eq_getElem h] using this
  · simp [List.getD, List.getElem?_eq_none h]
theorem getD_of (l : List Nat) (k d : Nat) (h : l[k]? = some d) : l.getD k 0 = d := by simp [List.getD, h]
theorem getD_out (l : List Nat) (k : Nat) (h : l.length ≤ k) : l.getD k 0 = 0 := by simp [List.getD, List.getElem?_eq_none h]
theorem reads_at_own {w : World} {base : Nat} {e : TypeId} {size n : Nat} {v : Value} {xs : List Value} (h : w.ownsRow base e size v n xs) : ∃ A c, v = .slice A n c ∧ n ≤ c ∧ c ≤ 9223372036854775807 ∧ Reads w w.heap.size size A n xs ∧ ∀ k, Fresh base (.slice A k c) := by
  rcases h.2 with ⟨rfl, rfl⟩ | ⟨g, cap, cur, rfl, hb, _, hc, hc2, _⟩
  · exact ⟨none, 0, rfl, Nat.le_refl _, by omega, Reads.of_own h, fun _ => trivial⟩
  · exact ⟨_, cap, rfl, hc, by unfold maxLen at hc2; omega, Reads.of_own h, fun _ => hb⟩
/-- What trim leaves of digits that the call made. -/
theorem mag_of_trim {w : World} {A : Option Addr} {n c m : Nat} {l : List Nat} (hr : Reads w w.heap.size 1 A n (U l)) (hd : ∀ d ∈ l, d < 65536) (hc : n ≤ c) (hc2 : c ≤ 9223372036854775807) (hv : val l = m) : MagR w (.slice A (digs (val l)).length c) m := by
  subst hv
  have hlen := hr.len_U
  have hle : (digs (val l)).length ≤ n := by rw [← hlen]; exact digs_len_le _ _ (val_lt l hd)
  have e : digs (val l) = l.take (digs (val l)).length := by
    -- the digits of a number are its list's first ones
    have h : ∀ (l : List Nat), (∀ d ∈ l, d < 65536) → digs (val l) = l.take (digs (val l)).length := by
      intro l
      induction l with
      | nil => intro _; simp [val, digs_zero]
      | cons d l ih =>
        intro hd
        have hd0 := hd d (by simp)
        by_cases h0 : val (d :: l) = 0
        · rw [h0, digs_zero]; rfl
        · rw [digs_pos _ h0]
          have e1 : val (d :: l) % 65536 = d := by rw [val]; omega
          have e2 : val (d :: l) / 65536 = val l := by rw [val]; omega
          rw [e1, e2, List.length_cons, List.take_succ_cons, ← ih (fun x hx => hd x (by simp [hx]))]
    exact h l hd
  refine ⟨A, c, rfl, by omega, hc2, ?_⟩
  refine ⟨by rw [length_U]; omega, fun hpos => ?_⟩
  obtain ⟨ad, hA, hb, hcell⟩ := hr.2 (by omega)
  refine ⟨ad, hA, hb, fun j u hu => hcell j u ?_⟩
  rw [e, ← U_take] at hu
  rw [List.getElem?_take] at hu
  split at hu
  · exact hu
  · cases hu

theorem snoc_lt {l : List Nat} (h : ∀ d ∈ l, d < 65536) (v : Nat) : ∀ d ∈ l ++ [v % 65536], d < 65536 := by
  intro d hd
  rcases List.mem_append.1 hd with hd | hd
  · exact h d hd
  · obtain rfl := List.mem_singleton.1 hd
    omega
theorem add_arith (P o t s c v x y : Nat) (h : o + P * c = t + s) (hv : v = c + x + y) : o + P * (v % 65536) + P * 65536 * (v / 65536) = t + P * x + (s + P * y) := by
  have e1 : P * (v % 65536) + P * 65536 * (v / 65536) = P * v := by rw [Nat.mul_assoc, ← Nat.mul_add, Nat.mod_add_div]
  have e2 : P * v = P * c + P * x + P * y := by rw [hv, Nat.mul_add, Nat.mul_add]
  omega

set_option maxHeartbeats 800000 in
set_option maxRecDepth 100000 in
theorem add_any (x y : Value) (a b : Nat) (w : World) (hx : MagR w x a) (hy : MagR w y b) (ha : (digs a).length ≤ 1000000) (hb : (digs b).length ≤ 1000000) :
    Calls Try.prog 140 #[x, y] w fun e w' => ∃ v, e = .returned v ∧ MagR w' v (a + b) ∧ Below w.heap.size w w' ∧ Fresh w.heap.size v := by
  obtain ⟨A, ca, rfl, hca, hca2, hra⟩ := hx
  obtain ⟨B, cb, rfl, hcb, hcb2, hrb⟩ := hy
  obtain ⟨i0, hi0, hz0, hz1, hz2⟩ := info_parts infoU
  generalize hma : (digs a).length = m at *
  generalize hmb : (digs b).length = n at *
  have Hma := Lib.hid hma
  have Hmb := Lib.hid hmb
  clear hma hmb
  go_enter Try.func140, Try.ntmps140
  go_wp2_with fail
  go_loopw [5, 6, 7] (fun v c i wr => ∃ (k cr : Nat) (l : List Nat), k ≤ m + n + 2 ∧ cr ≤ 1 ∧ (m + n < k → cr = 0) ∧ i = .int .i64 k ∧ c = .int .u64 cr ∧ l.length = k ∧ (∀ d ∈ l, d < 65536) ∧ val l + 65536 ^ k * cr = val ((digs a).take k) + val ((digs b).take k) ∧
      wr.ownsRow w.heap.size 124 1 v k (U l) ∧ Below w.heap.size w wr) (fun _ _ i _ => m + n + 2 - (intOf i).toNat)
  case atStart => exact ⟨0, 0, [], by omega, by omega, fun _ => rfl, rfl, rfl, rfl, by simp, by simp [val], World.ownsRow_nil _ _ _ _, Below.refl _ _⟩
  case round =>
    obtain ⟨k, cr, l, hk, hcr, hk2, rfl, rfl, hl, hd, hv, hown, hbl⟩ := hrel
    have Hl := Lib.hid hl
    have Hd := Lib.hid hd
    have Hv := Lib.hid hv
    have hz := hbl.size
    clear hl hd hv
    by_cases h1 : k < m
    · obtain ⟨ad, p, rfl, hbp, hp, hcp⟩ := hra.dig hbl (Nat.le_refl _) h1
      have Hp := Lib.hid (getD_of _ _ _ hp)
      have hp2 : p < 65536 := digs_lt a p (List.mem_of_getElem? hp)
      clear hp
      by_cases h2 : k < n
      · obtain ⟨bd, q, rfl, hbq, hq, hcq⟩ := hrb.dig hbl (Nat.le_refl _) h2
        have Hq := Lib.hid (getD_of _ _ _ hq)
        have hq2 : q < 65536 := digs_lt b q (List.mem_of_getElem? hq)
        clear hq
        go_wp2_with (at_builtin; refine wpList_append_one rfl (.tmp 46) (.tmp 49) _ rfl w.heap.size _ i0 _ 1 8 Try.underlying131 hi0 hz0 hz1 hz2 rfl (by decide) wr _ _ _ _ rfl hown _ rfl rfl rfl (by simp [Value.oneCell']) (by simp only [maxLen]; omega) (by omega) ?_; intro v' w' hown' hb' hz')
        go_roundw
        case rel =>
          refine ⟨k + 1, (cr + p + q) / 65536, l ++ [(cr + p + q) % 65536], by omega, by omega, fun _ => by omega, by go_num, int_eq (by omega), by rw [List.length_append, Hl.out]; rfl, snoc_lt Hd.out _, ?_, own_snoc hown' (by omega), hb' _ _ (Nat.le_refl _) hbl⟩
          rw [val_snoc, val_take_succ, val_take_succ, Hl.out, Nat.pow_succ, Hp.out, Hq.out]
          have := add_arith (65536 ^ k) _ _ _ _ (cr + p + q) p q Hv.out (by omega)
          omega
        case measure => simp [intOf]; omega
      · have Hq := Lib.hid (getD_out (digs b) k (by rw [Hmb.out]; omega))
        go_wp2_with (at_builtin; refine wpList_append_one rfl (.tmp 46) (.tmp 49) _ rfl w.heap.size _ i0 _ 1 8 Try.underlying131 hi0 hz0 hz1 hz2 rfl (by decide) wr _ _ _ _ rfl hown _ rfl rfl rfl (by simp [Value.oneCell']) (by simp only [maxLen]; omega) (by omega) ?_; intro v' w' hown' hb' hz')
        go_roundw
        case rel =>
          refine ⟨k + 1, (cr + p) / 65536, l ++ [(cr + p) % 65536], by omega, by omega, fun _ => by omega, by go_num, int_eq (by omega), by rw [List.length_append, Hl.out]; rfl, snoc_lt Hd.out _, ?_, own_snoc hown' (by omega), hb' _ _ (Nat.le_refl _) hbl⟩
          rw [val_snoc, val_take_succ, val_take_succ, Hl.out, Nat.pow_succ, Hp.out, Hq.out]
          have := add_arith (65536 ^ k) _ _ _ _ (cr + p) p 0 Hv.out (by omega)
          omega
        case measure => simp [intOf]; omega
    · have Hp := Lib.hid (getD_out (digs a) k (by rw [Hma.out]; omega))
      by_cases h2 : k < n
      · obtain ⟨bd, q, rfl, hbq, hq, hcq⟩ := hrb.dig hbl (Nat.le_refl _) h2
        have Hq := Lib.hid (getD_of _ _ _ hq)
        have hq2 : q < 65536 := digs_lt b q (List.mem_of_getElem? hq)
        clear hq
        go_wp2_with (at_builtin; refine wpList_append_one rfl (.tmp 46) (.tmp 49) _ rfl w.heap.size _ i0 _ 1 8 Try.underlying131 hi0 hz0 hz1 hz2 rfl (by decide) wr _ _ _ _ rfl hown _ rfl rfl rfl (by simp [Value.oneCell']) (by simp only [maxLen]; omega) (by omega) ?_; intro v' w' hown' hb' hz')
        go_roundw
        case rel =>
          refine ⟨k + 1, (cr + q) / 65536, l ++ [(cr + q) % 65536], by omega, by omega, fun _ => by omega, by go_num, int_eq (by omega), by rw [List.length_append, Hl.out]; rfl, snoc_lt Hd.out _, ?_, own_snoc hown' (by omega), hb' _ _ (Nat.le_refl _) hbl⟩
          rw [val_snoc, val_take_succ, val_take_succ, Hl.out, Nat.pow_succ, Hp.out, Hq.out]
          have := add_arith (65536 ^ k) _ _ _ _ (cr + q) 0 q Hv.out (by omega)
          omega
        case measure => simp [intOf]; omega
      · have Hq := Lib.hid (getD_out (digs b) k (by rw [Hmb.out]; omega))
        by_cases h3 : 0 < cr
        · obtain rfl : cr = 1 := by omega
          go_wp2_with (at_builtin; refine wpList_append_one rfl (.tmp 46) (.tmp 49) _ rfl w.heap.size _ i0 _ 1 8 Try.underlying131 hi0 hz0 hz1 hz2 rfl (by decide) wr _ _ _ _ rfl hown _ rfl rfl rfl (by simp [Value.oneCell']) (by simp only [maxLen]; omega) (by omega) ?_; intro v' w' hown' hb' hz')
          go_roundw
          case rel =>
            refine ⟨k + 1, (1) / 65536, l ++ [(1) % 65536], by omega, by omega, fun _ => by omega, by go_num, int_eq (by omega), by rw [List.length_append, Hl.out]; rfl, snoc_lt Hd.out _, ?_, own_snoc hown' (by omega), hb' _ _ (Nat.le_refl _) hbl⟩
            rw [val_snoc, val_take_succ, val_take_succ, Hl.out, Nat.pow_succ, Hp.out, Hq.out]
            have := add_arith (65536 ^ k) _ _ _ _ (1) 0 0 Hv.out (by omega)
            omega
          case measure => simp [intOf]; omega
        · obtain rfl : cr = 0 := by omega
          have hval := Hv.out
          rw [List.take_of_length_le (by rw [Hma.out]; omega), List.take_of_length_le (by rw [Hmb.out]; omega), val_digs, val_digs, Nat.mul_zero, Nat.add_zero] at hval
          have Hval := Lib.hid hval
          clear hval
          obtain ⟨A', c', rfl, hc1, hc2, hrd, hfr⟩ := reads_at_own hown
          go_wp2_with fail
          refine (trim_any wr.heap.size A' k c' l _ hrd (Nat.le_refl _) Hd.out (by omega) hc1).mono ?_
          rintro e w1 ⟨rfl, rfl⟩
          go_wp2_with fail
          go_ret
          exact ⟨_, rfl, mag_of_trim hrd Hd.out hc1 hc2 Hval.out, hbl, hfr _⟩
end Go.Proofs.Ytijaldpmpjapiaa
