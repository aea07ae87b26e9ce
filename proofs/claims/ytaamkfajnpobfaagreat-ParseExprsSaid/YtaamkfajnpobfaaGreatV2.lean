/-
  Texts that were joined: BigC, BigD, BigE, BigF, BigG, BigH, BigI, TBigK, TNumR, TNumS, DateD, CivB, TNumH, TreJ, TreK, TreL, KN, TreM, TreN, TreO, TreP, TrmA, TrmB, TrmC, TrmD, TrmE, TrmF, TrmG, TrmH, TrmI, TrmJ, TrmK, TrmL, TrmM, TrmN, TrmO, TrmP, ParA, PanA, PanB, PanC, PanD. Conditions: what each theorem names.
-/
import Derived.Test.YtaamkfajnpobfaaGreatV1
set_option linter.unusedSectionVars false
namespace Go.Proofs.YtaamkfajnpobfaaGreat
open Go.RowKit

theorem infoU : (Tryz.prog.info? 162).map (fun i => (i.zero, i.size, i.bytes)) = some (some (.int .u64 0), 1, 8) := by kernel_rfl
theorem U_snoc (l : List Nat) (d : Nat) (z : Int) (h : z = d) : U l ++ (#[Value.int .u64 z] : Array Value).toList = U (l ++ [d]) := by rw [U_append, h]; rfl
theorem own_snoc {w : World} {base : Nat} {e : TypeId} {n : Nat} {v : Value} {l : List Nat} {d : Nat} {z : Int} (h : w.ownsRow base e 1 v n (U l ++ (#[Value.int .u64 z] : Array Value).toList)) (hz : z = d) : w.ownsRow base e 1 v n (U (l ++ [d])) := U_snoc l d z hz ▸ h
theorem val_take_succ (l : List Nat) (k : Nat) : val (l.take (k + 1)) = val (l.take k) + 65536 ^ k * l.getD k 0 := by
 rcases Nat.lt_or_ge k l.length with h | h
 ·rw [List.take_add_one, List.getElem?_eq_getElem h]
  show val (_ ++ [_]) = _
  rw [val_snoc, List.length_take, Nat.min_eq_left (by omega)]
  simp [List.getD, List.getElem?_eq_getElem h]
 ·rw [List.take_of_length_le (by omega), List.take_of_length_le (by omega)]
  simp [List.getD, List.getElem?_eq_none h]
theorem getD_of (l : List Nat) (k d : Nat) (h : l[k]? = some d) : l.getD k 0 = d := by simp [List.getD, h]
theorem getD_out (l : List Nat) (k : Nat) (h : l.length ≤ k) : l.getD k 0 = 0 := by simp [List.getD, List.getElem?_eq_none h]
theorem reads_at_own {w : World} {base : Nat} {e : TypeId} {size n : Nat} {v : Value} {xs : List Value} (h : w.ownsRow base e size v n xs) : ∃ A c, v = .slice A n c ∧ n ≤ c ∧ c ≤ 9223372036854775807 ∧ Reads w w.heap.size size A n xs ∧ ∀ k, Fresh base (.slice A k c) := by
 rcases h.2 with ⟨rfl, rfl⟩ | ⟨g, cap, cur, rfl, hb, _, hc, hc2, _⟩
 ·exact ⟨none, 0, rfl, Nat.le_refl _, by omega, Reads.of_own h, fun _ => trivial⟩
 ·exact ⟨_, cap, rfl, hc, by unfold maxLen at hc2; omega, Reads.of_own h, fun _ => hb⟩
theorem mag_of_trim {w : World} {A : Option Addr} {n c m : Nat} {l : List Nat} (hr : Reads w w.heap.size 1 A n (U l)) (hd : ∀ d ∈ l, d < 65536) (hc : n ≤ c) (hc2 : c ≤ 9223372036854775807) (hv : val l = m) : MagR w (.slice A (digs (val l)).length c) m := by
 subst hv
 have hlen := hr.len_U
 have hle : (digs (val l)).length ≤ n := by rw [← hlen]; exact digs_len_le _ _ (val_lt l hd)
 have e : digs (val l) = l.take (digs (val l)).length := by
  -- the digits of a number are its list's first ones
  have h : ∀ (l : List Nat), (∀ d ∈ l, d < 65536) → digs (val l) = l.take (digs (val l)).length := by
   intro l
   induction l with
   | nil => intro _; simp [val, digs_zero]
   | cons d l ih =>
    intro hd
    have hd0 := hd d (by simp)
    by_cases h0 : val (d :: l) = 0
    ·rw [h0, digs_zero]; rfl
    ·rw [digs_pos _ h0]
     have e1 : val (d :: l) % 65536 = d := by rw [val]; omega
     have e2 : val (d :: l) / 65536 = val l := by rw [val]; omega
     rw [e1, e2, List.length_cons, List.take_succ_cons, ← ih (fun x hx => hd x (by simp [hx]))]
  exact h l hd
 refine ⟨A, c, rfl, by omega, hc2, ?_⟩
 refine ⟨by rw [length_U]; omega, fun hpos => ?_⟩
 obtain ⟨ad, hA, hb, hcell⟩ := hr.2 (by omega)
 refine ⟨ad, hA, hb, fun j u hu => hcell j u ?_⟩
 rw [e, ← U_take] at hu
 rw [List.getElem?_take] at hu
 split at hu
 ·exact hu
 ·cases hu

theorem snoc_lt {l : List Nat} (h : ∀ d ∈ l, d < 65536) (v : Nat) : ∀ d ∈ l ++ [v % 65536], d < 65536 := by
 intro d hd
 rcases List.mem_append.1 hd with hd | hd
 ·exact h d hd
 ·obtain rfl := List.mem_singleton.1 hd
  omega
theorem add_arith (P o t s c v x y : Nat) (h : o + P * c = t + s) (hv : v = c + x + y) : o + P * (v % 65536) + P * 65536 * (v / 65536) = t + P * x + (s + P * y) := by
 have e1 : P * (v % 65536) + P * 65536 * (v / 65536) = P * v := by rw [Nat.mul_assoc, ← Nat.mul_add, Nat.mod_add_div]
 have e2 : P * v = P * c + P * x + P * y := by rw [hv, Nat.mul_add, Nat.mul_add]
 omega

set_option maxHeartbeats 800000 in
set_option maxRecDepth 100000 in
theorem add_any (x y : Value) (a b : Nat) (w : World) (hx : MagR w x a) (hy : MagR w y b) (ha : (digs a).length ≤ 1000000) (hb : (digs b).length ≤ 1000000) :
  Calls Tryz.prog 147 #[x, y] w fun e w' => ∃ v, e = .returned v ∧ MagR w' v (a + b) ∧ Below w.heap.size w w' ∧ Fresh w.heap.size v := by
 obtain ⟨A, ca, rfl, hca, hca2, hra⟩ := hx
 obtain ⟨B, cb, rfl, hcb, hcb2, hrb⟩ := hy
 obtain ⟨i0, hi0, hz0, hz1, hz2⟩ := info_parts infoU
 generalize hma : (digs a).length = m at *
 generalize hmb : (digs b).length = n at *
 have Hma := Lib.hid hma
 have Hmb := Lib.hid hmb
 clear hma hmb
 go_enter Tryz.func147, Tryz.ntmps147
 go_wp2_with fail
 go_loopw [5, 6, 7] (fun v c i wr => ∃ (k cr : Nat) (l : List Nat), k ≤ m + n + 2 ∧ cr ≤ 1 ∧ (m + n < k → cr = 0) ∧ i = .int .i64 k ∧ c = .int .u64 cr ∧ l.length = k ∧ (∀ d ∈ l, d < 65536) ∧ val l + 65536 ^ k * cr = val ((digs a).take k) + val ((digs b).take k) ∧
   wr.ownsRow w.heap.size 162 1 v k (U l) ∧ Below w.heap.size w wr) (fun _ _ i _ => m + n + 2 - (intOf i).toNat)
 case atStart => exact ⟨0, 0, [], by omega, by omega, fun _ => rfl, rfl, rfl, rfl, by simp, by simp [val], World.ownsRow_nil _ _ _ _, Below.refl _ _⟩
 case round =>
  obtain ⟨k, cr, l, hk, hcr, hk2, rfl, rfl, hl, hd, hv, hown, hbl⟩ := hrel
  have Hl := Lib.hid hl
  have Hd := Lib.hid hd
  have Hv := Lib.hid hv
  have hz := hbl.size
  clear hl hd hv
  by_cases h1 : k < m
  ·obtain ⟨ad, p, rfl, hbp, hp, hcp⟩ := hra.dig hbl (Nat.le_refl _) h1
   have Hp := Lib.hid (getD_of _ _ _ hp)
   have hp2 : p < 65536 := digs_lt a p (List.mem_of_getElem? hp)
   clear hp
   by_cases h2 : k < n
   ·obtain ⟨bd, q, rfl, hbq, hq, hcq⟩ := hrb.dig hbl (Nat.le_refl _) h2
    have Hq := Lib.hid (getD_of _ _ _ hq)
    have hq2 : q < 65536 := digs_lt b q (List.mem_of_getElem? hq)
    clear hq
    go_wp2_with (at_builtin; refine wpList_append_one rfl (.tmp 46) (.tmp 49) _ rfl w.heap.size _ i0 _ 1 8 Tryz.underlying152 hi0 hz0 hz1 hz2 rfl (by decide) wr _ _ _ _ rfl hown _ rfl rfl rfl (by simp [Value.oneCell']) (by simp only [maxLen]; omega) (by omega) ?_; intro v' w' hown' hb' hz')
    go_roundw
    case rel =>
     refine ⟨k + 1, (cr + p + q) / 65536, l ++ [(cr + p + q) % 65536], by omega, by omega, fun _ => by omega, by go_num, int_eq (by omega), by rw [List.length_append, Hl.out]; rfl, snoc_lt Hd.out _, ?_, own_snoc hown' (by omega), hb' _ _ (Nat.le_refl _) hbl⟩
     rw [val_snoc, val_take_succ, val_take_succ, Hl.out, Nat.pow_succ, Hp.out, Hq.out]
     have := add_arith (65536 ^ k) _ _ _ _ (cr + p + q) p q Hv.out (by omega)
     omega
    case measure => simp [intOf]; omega
   ·have Hq := Lib.hid (getD_out (digs b) k (by rw [Hmb.out]; omega))
    go_wp2_with (at_builtin; refine wpList_append_one rfl (.tmp 46) (.tmp 49) _ rfl w.heap.size _ i0 _ 1 8 Tryz.underlying152 hi0 hz0 hz1 hz2 rfl (by decide) wr _ _ _ _ rfl hown _ rfl rfl rfl (by simp [Value.oneCell']) (by simp only [maxLen]; omega) (by omega) ?_; intro v' w' hown' hb' hz')
    go_roundw
    case rel =>
     refine ⟨k + 1, (cr + p) / 65536, l ++ [(cr + p) % 65536], by omega, by omega, fun _ => by omega, by go_num, int_eq (by omega), by rw [List.length_append, Hl.out]; rfl, snoc_lt Hd.out _, ?_, own_snoc hown' (by omega), hb' _ _ (Nat.le_refl _) hbl⟩
     rw [val_snoc, val_take_succ, val_take_succ, Hl.out, Nat.pow_succ, Hp.out, Hq.out]
     have := add_arith (65536 ^ k) _ _ _ _ (cr + p) p 0 Hv.out (by omega)
     omega
    case measure => simp [intOf]; omega
  ·have Hp := Lib.hid (getD_out (digs a) k (by rw [Hma.out]; omega))
   by_cases h2 : k < n
   ·obtain ⟨bd, q, rfl, hbq, hq, hcq⟩ := hrb.dig hbl (Nat.le_refl _) h2
    have Hq := Lib.hid (getD_of _ _ _ hq)
    have hq2 : q < 65536 := digs_lt b q (List.mem_of_getElem? hq)
    clear hq
    go_wp2_with (at_builtin; refine wpList_append_one rfl (.tmp 46) (.tmp 49) _ rfl w.heap.size _ i0 _ 1 8 Tryz.underlying152 hi0 hz0 hz1 hz2 rfl (by decide) wr _ _ _ _ rfl hown _ rfl rfl rfl (by simp [Value.oneCell']) (by simp only [maxLen]; omega) (by omega) ?_; intro v' w' hown' hb' hz')
    go_roundw
    case rel =>
     refine ⟨k + 1, (cr + q) / 65536, l ++ [(cr + q) % 65536], by omega, by omega, fun _ => by omega, by go_num, int_eq (by omega), by rw [List.length_append, Hl.out]; rfl, snoc_lt Hd.out _, ?_, own_snoc hown' (by omega), hb' _ _ (Nat.le_refl _) hbl⟩
     rw [val_snoc, val_take_succ, val_take_succ, Hl.out, Nat.pow_succ, Hp.out, Hq.out]
     have := add_arith (65536 ^ k) _ _ _ _ (cr + q) 0 q Hv.out (by omega)
     omega
    case measure => simp [intOf]; omega
   ·have Hq := Lib.hid (getD_out (digs b) k (by rw [Hmb.out]; omega))
    by_cases h3 : 0 < cr
    ·obtain rfl : cr = 1 := by omega
     go_wp2_with (at_builtin; refine wpList_append_one rfl (.tmp 46) (.tmp 49) _ rfl w.heap.size _ i0 _ 1 8 Tryz.underlying152 hi0 hz0 hz1 hz2 rfl (by decide) wr _ _ _ _ rfl hown _ rfl rfl rfl (by simp [Value.oneCell']) (by simp only [maxLen]; omega) (by omega) ?_; intro v' w' hown' hb' hz')
     go_roundw
     case rel =>
      refine ⟨k + 1, (1) / 65536, l ++ [(1) % 65536], by omega, by omega, fun _ => by omega, by go_num, int_eq (by omega), by rw [List.length_append, Hl.out]; rfl, snoc_lt Hd.out _, ?_, own_snoc hown' (by omega), hb' _ _ (Nat.le_refl _) hbl⟩
      rw [val_snoc, val_take_succ, val_take_succ, Hl.out, Nat.pow_succ, Hp.out, Hq.out]
      have := add_arith (65536 ^ k) _ _ _ _ (1) 0 0 Hv.out (by omega)
      omega
     case measure => simp [intOf]; omega
    ·obtain rfl : cr = 0 := by omega
     have hval := Hv.out
     rw [List.take_of_length_le (by rw [Hma.out]; omega), List.take_of_length_le (by rw [Hmb.out]; omega), val_digs, val_digs, Nat.mul_zero, Nat.add_zero] at hval
     have Hval := Lib.hid hval
     clear hval
     obtain ⟨A', c', rfl, hc1, hc2, hrd, hfr⟩ := reads_at_own hown
     go_wp2_with fail
     refine (trim_any wr.heap.size A' k c' l _ hrd (Nat.le_refl _) Hd.out (by omega) hc1).mono ?_
     rintro e w1 ⟨rfl, rfl⟩
     go_wp2_with fail
     go_ret
     exact ⟨_, rfl, mag_of_trim hrd Hd.out hc1 hc2 Hval.out, hbl, hfr _⟩
end Go.Proofs.YtaamkfajnpobfaaGreat

namespace Go.Proofs.YtaamkfajnpobfaaGreat
open Go.RowKit

theorem sub_arith (P o t s b v x y b' : Nat) (h : o + s = t + P * b + 0) (hv : v + b + y = 65536 + x) (hb : b' = 1 - v / 65536) (hv2 : v < 131072) :
  o + P * (v % 65536) + (s + P * y + P * b) = t + P * x + P * 65536 * b' + P * b := by
 have e0 : v % 65536 + 65536 * (v / 65536) = v := Nat.mod_add_div v 65536
 have e3 : v % 65536 + b + y = x + 65536 * b' := by omega
 have e4 : P * (v % 65536) + P * b + P * y = P * x + P * (65536 * b') := by rw [← Nat.mul_add, ← Nat.mul_add, ← Nat.mul_add, e3]
 rw [← Nat.mul_assoc] at e4
 omega

set_option maxHeartbeats 800000 in
set_option maxRecDepth 100000 in
theorem sub_any (x y : Value) (a b : Nat) (w : World) (hx : MagR w x a) (hy : MagR w y b) (ha : (digs a).length ≤ 1000000) (hle : b ≤ a) :
  Calls Tryz.prog 149 #[x, y] w fun e w' => ∃ v, e = .returned v ∧ MagR w' v (a - b) ∧ Below w.heap.size w w' ∧ Fresh w.heap.size v := by
 obtain ⟨A, ca, rfl, hca, hca2, hra⟩ := hx
 obtain ⟨B, cb, rfl, hcb, hcb2, hrb⟩ := hy
 obtain ⟨i0, hi0, hz0, hz1, hz2⟩ := info_parts infoU
 have hmn : (digs b).length ≤ (digs a).length := by
  have := lt_of_digs_len a
  exact digs_len_le b _ (by omega)
 generalize hma : (digs a).length = m at *
 generalize hmb : (digs b).length = n at *
 have Hma := Lib.hid hma
 have Hmb := Lib.hid hmb
 clear hma hmb
 go_enter Tryz.func149, Tryz.ntmps149
 go_wp2_with fail
 go_loopw [5, 6, 7] (fun v c i wr => ∃ (k bo : Nat) (l : List Nat), k ≤ m ∧ bo ≤ 1 ∧ i = .int .i64 k ∧ c = .int .u64 bo ∧ l.length = k ∧ (∀ d ∈ l, d < 65536) ∧ val l + val ((digs b).take k) = val ((digs a).take k) + 65536 ^ k * bo ∧
   wr.ownsRow w.heap.size 162 1 v k (U l) ∧ Below w.heap.size w wr) (fun _ _ i _ => m - (intOf i).toNat)
 case atStart => exact ⟨0, 0, [], by omega, by omega, rfl, rfl, rfl, by simp, by simp [val], World.ownsRow_nil _ _ _ _, Below.refl _ _⟩
 case round =>
  obtain ⟨k, bo, l, hk, hbo, rfl, rfl, hl, hd, hv, hown, hbl⟩ := hrel
  have Hl := Lib.hid hl
  have Hd := Lib.hid hd
  have Hv := Lib.hid hv
  have hz := hbl.size
  clear hl hd hv
  by_cases h1 : k < m
  ·obtain ⟨ad, p, rfl, hbp, hp, hcp⟩ := hra.dig hbl (Nat.le_refl _) h1
   have Hp := Lib.hid (getD_of _ _ _ hp)
   have hp2 : p < 65536 := digs_lt a p (List.mem_of_getElem? hp)
   clear hp
   by_cases h2 : k < n
   ·obtain ⟨bd, q, rfl, hbq, hq, hcq⟩ := hrb.dig hbl (Nat.le_refl _) h2
    have Hq := Lib.hid (getD_of _ _ _ hq)
    have hq2 : q < 65536 := digs_lt b q (List.mem_of_getElem? hq)
    clear hq
    go_wp2_with (at_builtin; refine wpList_append_one rfl (.tmp 32) (.tmp 35) _ rfl w.heap.size _ i0 _ 1 8 Tryz.underlying152 hi0 hz0 hz1 hz2 rfl (by decide) wr _ _ _ _ rfl hown _ rfl rfl rfl (by simp [Value.oneCell']) (by simp only [maxLen]; omega) (by omega) ?_; intro v' w' hown' hb' hz')
    go_roundw
    case rel =>
     refine ⟨k + 1, 1 - (65536 + p - bo - q) / 65536, l ++ [(65536 + p - bo - q) % 65536], by omega, by omega, by go_num, int_eq (by omega), by rw [List.length_append, Hl.out]; rfl, snoc_lt Hd.out _, ?_, own_snoc hown' (by omega), hb' _ _ (Nat.le_refl _) hbl⟩
     rw [val_snoc, val_take_succ, val_take_succ, Hl.out, Nat.pow_succ, Hp.out, Hq.out]
     have := sub_arith (65536 ^ k) _ _ _ _ (65536 + p - bo - q) p q _ Hv.out (by omega) rfl (by omega)
     omega
    case measure => simp [intOf]; omega
   ·have Hq := Lib.hid (getD_out (digs b) k (by rw [Hmb.out]; omega))
    go_wp2_with (at_builtin; refine wpList_append_one rfl (.tmp 32) (.tmp 35) _ rfl w.heap.size _ i0 _ 1 8 Tryz.underlying152 hi0 hz0 hz1 hz2 rfl (by decide) wr _ _ _ _ rfl hown _ rfl rfl rfl (by simp [Value.oneCell']) (by simp only [maxLen]; omega) (by omega) ?_; intro v' w' hown' hb' hz')
    go_roundw
    case rel =>
     refine ⟨k + 1, 1 - (65536 + p - bo) / 65536, l ++ [(65536 + p - bo) % 65536], by omega, by omega, by go_num, int_eq (by omega), by rw [List.length_append, Hl.out]; rfl, snoc_lt Hd.out _, ?_, own_snoc hown' (by omega), hb' _ _ (Nat.le_refl _) hbl⟩
     rw [val_snoc, val_take_succ, val_take_succ, Hl.out, Nat.pow_succ, Hp.out, Hq.out]
     have := sub_arith (65536 ^ k) _ _ _ _ (65536 + p - bo) p 0 _ Hv.out (by omega) rfl (by omega)
     omega
    case measure => simp [intOf]; omega
  ·obtain rfl : k = m := by omega
   have hval : val l = a - b := by
    have hval := Hv.out
    rw [List.take_of_length_le (show (digs b).length ≤ k by rw [Hmb.out]; omega), List.take_of_length_le (show (digs a).length ≤ k by rw [Hma.out]; omega), val_digs, val_digs] at hval
    have hlt := val_lt l Hd.out
    rw [Hl.out] at hlt
    rcases Nat.lt_or_ge 0 bo with h | h
    ·obtain rfl : bo = 1 := by omega
     omega
    ·obtain rfl : bo = 0 := by omega
     omega
   have Hval := Lib.hid hval
   clear hval
   obtain ⟨A', c', rfl, hc1, hc2, hrd, hfr⟩ := reads_at_own hown
   go_wp2_with fail
   refine (trim_any wr.heap.size A' k c' l _ hrd (Nat.le_refl _) Hd.out (by omega) hc1).mono ?_
   rintro e w1 ⟨rfl, rfl⟩
   go_wp2_with fail
   go_ret
   exact ⟨_, rfl, mag_of_trim hrd Hd.out hc1 hc2 Hval.out, hbl, hfr _⟩
end Go.Proofs.YtaamkfajnpobfaaGreat

namespace Go.Proofs.YtaamkfajnpobfaaGreat
open Go.RowKit

def BigR (w : World) (v : Value) (z : Int) : Prop := ∃ m, v = .agg #[.bool (decide (z < 0)), m] ∧ MagR w m z.natAbs
theorem BigR.step {w w' : World} {v : Value} {z : Int} (h : BigR w v z) (hb : Below w.heap.size w w') : BigR w' v z := by
 obtain ⟨m, e, h⟩ := h
 exact ⟨m, e, h.step hb⟩
theorem val4 (a b c d : Nat) : val [a, b, c, d] = a + 65536 * (b + 65536 * (c + 65536 * d)) := by simp [val]
theorem infoBig : (Tryz.prog.info? 154).map (fun i => (i.zero, i.size, i.bytes)) = some (some (.agg #[.bool false, .slice none 0 0]), 2, 32) := by kernel_rfl
theorem Reads.other {w w' : World} {B n g : Nat} {A : Option Addr} {l : List Nat} {cs : Array Value} {t : TypeId} {fr : Nat × Nat} (h : Reads w B 1 A n (U l)) (hg : w.heap[g]? = some (.cells cs t fr)) (hcs : ∀ (k : IntKind) (z : Int), Value.int k z ∉ cs.toList)
  (hgr : w.grownBy w' (some g)) : Reads w' B 1 A n (U l) := by
 refine ⟨h.1, fun hn => ?_⟩
 obtain ⟨ad, hA, hb, hc⟩ := h.2 hn
 refine ⟨ad, hA, hb, fun j u hu => ?_⟩
 have h1 := hc j u hu
 have hne : (ad.add j).block ≠ g := by
  intro he
  rw [get_U] at hu
  cases hl : l[j]? with
  | none => rw [hl] at hu; cases hu
  | some d =>
   rw [hl] at hu
   injection hu with hu
   subst hu
   unfold World.cell? at h1
   rw [he, hg] at h1
   simp only at h1
   split at h1
   ·cases h1
   ·exact hcs _ _ (Array.mem_toList_iff.2 (Array.mem_of_getElem? h1))
 have hlt : (ad.add j).block < w.heap.size := by
  unfold World.cell? at h1
  rcases Nat.lt_or_ge (ad.add j).block w.heap.size with h2 | h2
  ·exact h2
  ·rw [Array.getElem?_eq_none h2] at h1; cases h1
 rw [← h1]
 unfold World.cell?
 rw [hgr.block _ hlt (by intro e; injection e with e; exact hne e)]
theorem MagR.other {w w' : World} {n g : Nat} {v : Value} {cs : Array Value} {t : TypeId} {fr : Nat × Nat} (h : MagR w v n) (hg : w.heap[g]? = some (.cells cs t fr)) (hcs : ∀ (k : IntKind) (z : Int), Value.int k z ∉ cs.toList)
  (hgr : w.grownBy w' (some g)) : MagR w' v n := by
 obtain ⟨A, c, e, h1, h2, h3⟩ := h
 exact ⟨A, c, e, h1, h2, (h3.other hg hcs hgr).more hgr.size⟩

set_option maxHeartbeats 400000 in
set_option maxRecDepth 100000 in
theorem sign_any (neg : Bool) (m : Value) (n : Nat) (w : World) (hm : MagR w m n) (hn : (digs n).length ≤ 1073741824) :
  Calls Tryz.prog 146 #[.bool neg, m] w fun e w' => e = .returned (.agg #[.bool (neg && decide (0 < n)), m]) ∧ Below w.heap.size w w' := by
 obtain ⟨A, c, rfl, hc, hc2, hr⟩ := hm
 obtain ⟨i0, hi0, hz0, hz1, hz2⟩ := info_parts infoBig
 have e : decide (0 < n) = decide (0 < (digs n).length) := by
  have := digs_len_zero n
  by_cases h : n = 0
  ·simp [h, digs_zero]
  ·have h2 : 0 < (digs n).length := by rcases Nat.eq_zero_or_pos (digs n).length with h3 | h3
                                       ·exact absurd (this.1 h3) h
                                       ·exact h3
   rw [decide_eq_true h2, decide_eq_true (by omega)]
 rw [e]
 generalize (digs n).length = l at *
 have hrow : (w.alloc (.cells #[.bool false, .slice none 0 0] 154)).heap[w.heap.size]? = some (.cells #[.bool false, .slice none 0 0] 154 (0, 0)) := heap_alloc_new w _
 cases neg
 all_goals
  by_cases h : 0 < l
  all_goals
   go_enter Tryz.func146, Tryz.ntmps146
   go_wp2_with (refine wpList_store_row rfl _ (.tmp 4) (.tmp 12) rfl rfl w.heap.size 0 rfl #[_, _] rfl i0 hi0 hz1 (by simp [Value.oneCell']) _ _ hrow (by simp) ?_; intro w3 hg3 hgr3 hz3)
   refine bodyPost_ret (results_cell_row rfl _ _ w.heap.size 154 #[_, _] (0, 0) _ rfl hg3 Tryz.underlying154 rfl (by rw [hi0]; simp [hz1])) rfl ?_
   refine ⟨?_, ((Below.refl w.heap.size w).alloc (Nat.le_refl _) _).grown hgr3 (by simp) (fun k hk => by injection hk with hk; omega)⟩
   simp [h]
end Go.Proofs.YtaamkfajnpobfaaGreat

namespace Go.Proofs.YtaamkfajnpobfaaGreat
open Go.RowKit

theorem zero_debentureref01_Big : zeroIs Tryz.prog 154 = some (some (.agg #[.bool false, .slice none 0 0])) := by kernel_rfl
theorem zero_uint64 : zeroIs Tryz.prog 162 = some (some (.int .u64 0)) := by kernel_rfl
theorem cmpN_ge {a b : Nat} (h : 0 ≤ cmpN a b) : b ≤ a := by unfold cmpN at h; split at h <;> omega
theorem cmpN_lt {a b : Nat} (h : ¬ 0 ≤ cmpN a b) : a < b := by
 unfold cmpN at h
 split at h
 ·omega
 ·split at h <;> omega
theorem MagR.put {w w' : World} {v : Value} {n g : Nat} {T : TypeId} {cur cs : Array Value} {B : Nat} (h : MagR w v n) (k : Blk w g T cur) (p : Put w w' g T cs) (_e : B ≤ g) (hcs : ∀ (k : IntKind) (z : Int), Value.int k z ∉ cur.toList := by simp [Value.cells, *]) : MagR w' v n := h.other k hcs p.grown
theorem MagR.ni {w : World} {v : Value} {n : Nat} (h : MagR w v n) : ∀ (k : IntKind) (z : Int), Value.int k z ≠ v := by obtain ⟨A, c, rfl, _⟩ := h; intro k z e; cases e
theorem MagR.one {w : World} {v : Value} {n : Nat} (h : MagR w v n) : v.oneCell' = true := by obtain ⟨A, c, rfl, _⟩ := h; rfl

theorem minus_any (x : Value) (a : Int) (w : World) (hx : BigR w x a) (ha : (digs a.natAbs).length ≤ 1073741824) :
  Calls Tryz.prog 115 #[x] w fun e w' => ∃ v, e = .returned v ∧ BigR w' v (-a) ∧ Below w.heap.size w w' := by
 obtain ⟨m, rfl, hm⟩ := hx
 have bel := Below.refl w.heap.size w
 have h1 := hm.one
 refine Zs 9 Tryz.func115 ?_
 refine Zsr ?_
 refine Seq.box rfl rfl rfl rfl rfl ?_
 intro g1 w1 n1
 have e1 := Nat.le_trans bel.size n1.ge
 replace bel := bel.step n1.below
 replace hm := hm.step n1.below
 have k1 := n1.blk
 refine Zl zero_debentureref01_Big ?_
 intro g2 w2 n2
 have e2 := Nat.le_trans bel.size n2.ge
 have l2 := Nat.lt_of_lt_of_le k1.lt n2.ge
 replace bel := bel.step n2.below
 replace hm := hm.step n2.below
 replace k1 := k1.step n2.below
 have k2 := n2.blk
 refine Zk3 0 1 2 (Ztq ?_)
 refine Zf 0 Tryz.underlying154 ?_
 refine Zv (Runs.loadB rfl rfl Tryz.underlying4 rfl k1 rfl) ?_
 refine Zv (Runs.not rfl rfl) ?_
 refine Zf 1 Tryz.underlying154 ?_
 refine Zv (Runs.loadB rfl rfl Tryz.underlying152 rfl k1 rfl) ?_
 refine Zc (Ze Tryz.func146) (sign_any _ _ _ _ hm (by omega)) ?_
 rintro e w3 ⟨rfl, hb⟩
 refine ⟨_, rfl, ?_⟩
 replace bel := bel.step hb
 replace hm := hm.step hb
 replace k1 := k1.step hb
 replace k2 := k2.step hb
 refine Zo 2 k2 ?_
 intro w3 pw3
 replace bel := bel.put k2 pw3 e2
 replace hm := hm.put k2 pw3 e2
 replace k1 := k1.put pw3 (by omega)
 replace k2 := pw3.blk
 refine Zk3 0 1 2 (Zt (Cd.ret ?_))
 refine Post.endC rfl rfl k2 Tryz.underlying154 rfl (m := 2) (by kernel_rfl) rfl (.inl rfl) ?_
 refine ⟨_, rfl, ⟨m, ?_, by rw [Int.natAbs_neg]; exact hm⟩, bel⟩
 show Value.agg #[_, m] = _
 have e : (!decide (a < 0) && decide (0 < a.natAbs)) = decide (-a < 0) := by
  rw [Bool.eq_iff_iff]; simp; omega
 rw [e]

theorem sign_big (neg : Bool) (m : Value) (n : Nat) (z : Int) (w : World) (hm : MagR w m n) (hn : (digs n).length ≤ 1073741824) (hz : z.natAbs = n) (hs : (neg && decide (0 < n)) = decide (z < 0)) :
  Calls Tryz.prog 146 #[.bool neg, m] w fun e w' => ∃ v, e = .returned v ∧ Below w.heap.size w w' ∧ BigR w' v z :=
 (sign_any neg m n w hm hn).mono fun e w' ⟨he, hb⟩ => ⟨_, he, hb, m, by rw [hs], by rw [hz]; exact hm.step hb⟩
theorem add_mag (x y : Value) (a b c : Nat) (w : World) (hx : MagR w x a) (hy : MagR w y b) (hc : c = a + b) (ha : (digs a).length ≤ 1000000) (hb : (digs b).length ≤ 1000000) :
  Calls Tryz.prog 147 #[x, y] w fun e w' => ∃ v, e = .returned v ∧ Below w.heap.size w w' ∧ MagR w' v c :=
 (add_any x y a b w hx hy ha hb).mono fun e w' ⟨v, he, hm, hb, _⟩ => ⟨v, he, hb, by rw [hc]; exact hm⟩
theorem sub_mag (x y : Value) (a b c : Nat) (w : World) (hx : MagR w x a) (hy : MagR w y b) (hle : b ≤ a) (hc : c = a - b) (ha : (digs a).length ≤ 1000000) :
  Calls Tryz.prog 149 #[x, y] w fun e w' => ∃ v, e = .returned v ∧ Below w.heap.size w w' ∧ MagR w' v c :=
 (sub_any x y a b w hx hy ha hle).mono fun e w' ⟨v, he, hm, hb, _⟩ => ⟨v, he, hb, by rw [hc]; exact hm⟩
theorem BigR.stable (z : Int) : ∀ v w w', Grow w w' → BigR w v z → BigR w' v z := fun _ _ _ hG h => h.step hG
theorem MagR.stable (z : Nat) : ∀ v w w', Grow w w' → MagR w v z → MagR w' v z := fun _ _ _ hG h => h.step hG

def big : Nat := 65536 ^ 60
theorem len_big {n : Nat} (h : n < 65536 * big) : (digs n).length ≤ 61 := digs_len_le n 61 (by unfold big at h; rw [Nat.pow_succ]; omega)
theorem big_pos : 1606938044258990275541962092341162602522202993782792835301376 ≤ big := by unfold big; decide

theorem plus_any (x y : Value) (a b : Int) (w : World) (hx : BigR w x a) (hy : BigR w y b) (ha : a.natAbs < big) (hb : b.natAbs < big) :
  Calls Tryz.prog 112 #[x, y] w fun e w' => ∃ v, e = .returned v ∧ BigR w' v (a + b) ∧ Below w.heap.size w w' := by
 obtain ⟨m, rfl, hm⟩ := hx
 obtain ⟨q, rfl, hq⟩ := hy
 have hla := len_big (n := a.natAbs) (by omega)
 have hlb := len_big (n := b.natAbs) (by omega)
 have bel := Below.refl w.heap.size w
 refine Zs 40 Tryz.func112 ?_
 refine Zsr ?_
 refine Seq.box rfl rfl rfl rfl rfl ?_
 intro g2 w1 n2
 have e2 := Nat.le_trans bel.size n2.ge
 replace bel := bel.step n2.below
 replace hm := hm.step n2.below
 replace hq := hq.step n2.below
 have k2 := n2.blk
 refine Seq.box rfl rfl rfl rfl rfl ?_
 intro g3 w2 n3
 have e3 := Nat.le_trans bel.size n3.ge
 have l3 := Nat.lt_of_lt_of_le k2.lt n3.ge
 replace bel := bel.step n3.below
 replace hm := hm.step n3.below
 replace hq := hq.step n3.below
 replace k2 := k2.step n3.below
 have k3 := n3.blk
 refine Zl zero_debentureref01_Big ?_
 intro g4 w3 n4
 have e4 := Nat.le_trans bel.size n4.ge
 have l4 := Nat.lt_of_lt_of_le k3.lt n4.ge
 replace bel := bel.step n4.below
 replace hm := hm.step n4.below
 replace hq := hq.step n4.below
 replace k2 := k2.step n4.below
 replace k3 := k3.step n4.below
 have k4 := n4.blk
 refine Zk5 0 1 2 3 4 (Zts (Zsr ?_))
 refine Zf 0 Tryz.underlying154 ?_
 refine Zv (Runs.loadB rfl rfl Tryz.underlying4 rfl k2 rfl) ?_
 refine Zf 0 Tryz.underlying154 ?_
 refine Zv (Runs.loadB rfl rfl Tryz.underlying4 rfl k3 rfl) ?_
 refine Zv (Runs.eqlB rfl rfl rfl Tryz.underlying4) ?_
 refine Zk6 0 1 2 3 4 9 (Zt ?_)
 refine Cd.condD rfl (fun hc => ?_) (fun hc => ?_)
 ·have hab : (a + b).natAbs = a.natAbs + b.natAbs := by simp at hc; omega
  have hl := len_big (n := (a + b).natAbs) (by omega)
  refine Cd.seq ?_
  refine Cd.draw 8 (by kernel_rfl) [] (.inl rfl) rfl Grow Grow.refl (fun _ _ _ => Grow.trans) ?_
  intro w4 hw4 zw4
  replace bel := bel.step hw4
  replace hm := hm.step hw4
  replace hq := hq.step hw4
  replace k2 := k2.step hw4
  replace k3 := k3.step hw4
  replace k4 := k4.step hw4
  have zbel := bel.size
  have zlt := k4.lt
  refine Zd (fun w hG => Runs.fieldB 0 rfl rfl Tryz.underlying154 rfl (by kernel_rfl)) ?_
  refine Zd (fun w hG => Runs.loadB rfl rfl Tryz.underlying4 rfl (k2.step hG) rfl) ?_
  refine Zd (fun w hG => Runs.fieldB 1 rfl rfl Tryz.underlying154 rfl (by kernel_rfl)) ?_
  refine Zd (fun w hG => Runs.loadB rfl rfl Tryz.underlying152 rfl (k2.step hG) rfl) ?_
  refine Zd (fun w hG => Runs.fieldB 1 rfl rfl Tryz.underlying154 rfl (by kernel_rfl)) ?_
  refine Zd (fun w hG => Runs.loadB rfl rfl Tryz.underlying152 rfl (k3.step hG) rfl) ?_
  refine Dr.call (Φ := fun v w => MagR w v (a + b).natAbs) rfl (fun w => Ze Tryz.func147) rfl (MagR.stable _) (fun w hG => add_mag _ _ _ _ _ _ (hm.step hG) (hq.step hG) hab (by omega) (by omega)) ?_
  refine Dr.call1 (j := 6) (Φ := fun v w => BigR w v (a + b)) rfl rfl rfl (fun u w => Ze Tryz.func146) rfl (BigR.stable _) (fun u w hG hu => sign_big _ u _ (a + b) _ hu (by omega) rfl (by simp at hc; rw [Bool.eq_iff_iff]; simp; omega)) ?_
  refine Dr.nil ?_
  refine FinX.open (j := 7) rfl ?_
  intro u7
  refine FinX.done (F' := [(0, _), (1, _), (2, _), (3, _), (4, _), (9, _), (17, _)]) rfl ⟨rfl, rfl, rfl, rfl, rfl, rfl, rfl, trivial⟩ ?_
  intro w5 hw5 fw5
  replace bel := bel.step hw5
  replace hm := hm.step hw5
  replace hq := hq.step hw5
  replace k2 := k2.step hw5
  replace k3 := k3.step hw5
  replace k4 := k4.step hw5
  obtain ⟨m2, rfl, hm2⟩ := fw5.2
  have hm2o := hm2.one
  refine Zo 2 k4 ?_
  intro w6 pw6
  replace bel := bel.put k4 pw6 e4
  replace hm := hm.put k4 pw6 e4
  replace hq := hq.put k4 pw6 e4
  replace k2 := k2.put pw6 (by omega)
  replace k3 := k3.put pw6 (by omega)
  replace hm2 := hm2.put k4 pw6 e4
  replace k4 := pw6.blk
  refine Zk6 0 1 2 3 4 9 (Zt (Cd.ret (Post.then_ret ?_)))
  refine Post.endC rfl rfl k4 Tryz.underlying154 rfl (m := 2) (by kernel_rfl) rfl (.inl rfl) ?_
  exact ⟨_, rfl, ⟨m2, rfl, hm2⟩, bel⟩
 ·skip
  refine Cd.skip (Zts (Zsr ?_))
  refine Zf 1 Tryz.underlying154 ?_
  refine Zv (Runs.loadB rfl rfl Tryz.underlying152 rfl k2 rfl) ?_
  refine Zf 1 Tryz.underlying154 ?_
  refine Zv (Runs.loadB rfl rfl Tryz.underlying152 rfl k3 rfl) ?_
  refine Zc (Ze Tryz.func148) (cmp_any _ _ _ _ _ hm hq (by omega) (by omega)) ?_
  rintro e w7 ⟨rfl, hdr⟩
  have hb7 := hdr.below w3.heap.size
  replace bel := bel.step hb7
  replace hm := hm.step hb7
  replace hq := hq.step hb7
  replace k2 := k2.step hb7
  replace k3 := k3.step hb7
  replace k4 := k4.step hb7
  refine ⟨_, rfl, ?_⟩
  refine Zv (Runs.geq rfl rfl rfl) ?_
  refine Zk7 0 1 2 3 4 9 23 (Zt ?_)
  refine Cd.condD rfl (fun hc2 => ?_) (fun hc2 => ?_)
  ·have hle : b.natAbs ≤ a.natAbs := cmpN_ge hc2
   have hab : (a + b).natAbs = a.natAbs - b.natAbs := by simp at hc; omega
   have hl := len_big (n := (a + b).natAbs) (by omega)
   refine Cd.seq ?_
   refine Cd.draw 8 (by kernel_rfl) [] (.inl rfl) rfl Grow Grow.refl (fun _ _ _ => Grow.trans) ?_
   intro w4 hw4 zw4
   replace bel := bel.step hw4
   replace hm := hm.step hw4
   replace hq := hq.step hw4
   replace k2 := k2.step hw4
   replace k3 := k3.step hw4
   replace k4 := k4.step hw4
   have zbel := bel.size
   have zlt := k4.lt
   refine Zd (fun w hG => Runs.fieldB 0 rfl rfl Tryz.underlying154 rfl (by kernel_rfl)) ?_
   refine Zd (fun w hG => Runs.loadB rfl rfl Tryz.underlying4 rfl (k2.step hG) rfl) ?_
   refine Zd (fun w hG => Runs.fieldB 1 rfl rfl Tryz.underlying154 rfl (by kernel_rfl)) ?_
   refine Zd (fun w hG => Runs.loadB rfl rfl Tryz.underlying152 rfl (k2.step hG) rfl) ?_
   refine Zd (fun w hG => Runs.fieldB 1 rfl rfl Tryz.underlying154 rfl (by kernel_rfl)) ?_
   refine Zd (fun w hG => Runs.loadB rfl rfl Tryz.underlying152 rfl (k3.step hG) rfl) ?_
   refine Dr.call (Φ := fun v w => MagR w v (a + b).natAbs) rfl (fun w => Ze Tryz.func149) rfl (MagR.stable _) (fun w hG => sub_mag _ _ _ _ _ _ (hm.step hG) (hq.step hG) hle hab (by omega)) ?_
   refine Dr.call1 (j := 6) (Φ := fun v w => BigR w v (a + b)) rfl rfl rfl (fun u w => Ze Tryz.func146) rfl (BigR.stable _) (fun u w hG hu => sign_big _ u _ (a + b) _ hu (by omega) rfl (by simp at hc; rw [Bool.eq_iff_iff]; simp; omega)) ?_
   refine Dr.nil ?_
   refine FinX.open (j := 7) rfl ?_
   intro u7
   refine FinX.done (F' := [(0, _), (1, _), (2, _), (3, _), (4, _), (9, _), (23, _), (31, _)]) rfl ⟨rfl, rfl, rfl, rfl, rfl, rfl, rfl, rfl, trivial⟩ ?_
   intro w5 hw5 fw5
   replace bel := bel.step hw5
   replace hm := hm.step hw5
   replace hq := hq.step hw5
   replace k2 := k2.step hw5
   replace k3 := k3.step hw5
   replace k4 := k4.step hw5
   obtain ⟨m2, rfl, hm2⟩ := (by assumption : True ∧ BigR _ _ _).2
   have hm2o := hm2.one
   refine Zo 2 k4 ?_
   intro w6 pw6
   replace bel := bel.put k4 pw6 e4
   replace hm := hm.put k4 pw6 e4
   replace hq := hq.put k4 pw6 e4
   replace k2 := k2.put pw6 (by omega)
   replace k3 := k3.put pw6 (by omega)
   replace hm2 := hm2.put k4 pw6 e4
   replace k4 := pw6.blk
   refine Zk7 0 1 2 3 4 9 23 (Zt (Cd.ret (Post.then_ret ?_)))
   refine Post.endC rfl rfl k4 Tryz.underlying154 rfl (m := 2) (by kernel_rfl) rfl (.inl rfl) ?_
   exact ⟨_, rfl, ⟨m2, rfl, hm2⟩, bel⟩
  ·have hle : a.natAbs ≤ b.natAbs := Nat.le_of_lt (cmpN_lt hc2)
   have hab : (a + b).natAbs = b.natAbs - a.natAbs := by simp at hc; omega
   have hl := len_big (n := (a + b).natAbs) (by omega)
   refine Cd.skip (Zts ?_)
   refine Cd.draw 8 (by kernel_rfl) [] (.inl rfl) rfl Grow Grow.refl (fun _ _ _ => Grow.trans) ?_
   intro w4 hw4 zw4
   replace bel := bel.step hw4
   replace hm := hm.step hw4
   replace hq := hq.step hw4
   replace k2 := k2.step hw4
   replace k3 := k3.step hw4
   replace k4 := k4.step hw4
   have zbel := bel.size
   have zlt := k4.lt
   refine Zd (fun w hG => Runs.fieldB 0 rfl rfl Tryz.underlying154 rfl (by kernel_rfl)) ?_
   refine Zd (fun w hG => Runs.loadB rfl rfl Tryz.underlying4 rfl (k3.step hG) rfl) ?_
   refine Zd (fun w hG => Runs.fieldB 1 rfl rfl Tryz.underlying154 rfl (by kernel_rfl)) ?_
   refine Zd (fun w hG => Runs.loadB rfl rfl Tryz.underlying152 rfl (k3.step hG) rfl) ?_
   refine Zd (fun w hG => Runs.fieldB 1 rfl rfl Tryz.underlying154 rfl (by kernel_rfl)) ?_
   refine Zd (fun w hG => Runs.loadB rfl rfl Tryz.underlying152 rfl (k2.step hG) rfl) ?_
   refine Dr.call (Φ := fun v w => MagR w v (a + b).natAbs) rfl (fun w => Ze Tryz.func149) rfl (MagR.stable _) (fun w hG => sub_mag _ _ _ _ _ _ (hq.step hG) (hm.step hG) hle hab (by omega)) ?_
   refine Dr.call1 (j := 6) (Φ := fun v w => BigR w v (a + b)) rfl rfl rfl (fun u w => Ze Tryz.func146) rfl (BigR.stable _) (fun u w hG hu => sign_big _ u _ (a + b) _ hu (by omega) rfl (by simp at hc; rw [Bool.eq_iff_iff]; simp; omega)) ?_
   refine Dr.nil ?_
   refine FinX.open (j := 7) rfl ?_
   intro u7
   refine FinX.done (F' := [(0, _), (1, _), (2, _), (3, _), (4, _), (9, _), (23, _), (39, _)]) rfl ⟨rfl, rfl, rfl, rfl, rfl, rfl, rfl, rfl, trivial⟩ ?_
   intro w5 hw5 fw5
   replace bel := bel.step hw5
   replace hm := hm.step hw5
   replace hq := hq.step hw5
   replace k2 := k2.step hw5
   replace k3 := k3.step hw5
   replace k4 := k4.step hw5
   obtain ⟨m2, rfl, hm2⟩ := (by assumption : True ∧ BigR _ _ _).2
   have hm2o := hm2.one
   refine Zo 2 k4 ?_
   intro w6 pw6
   replace bel := bel.put k4 pw6 e4
   replace hm := hm.put k4 pw6 e4
   replace hq := hq.put k4 pw6 e4
   replace k2 := k2.put pw6 (by omega)
   replace k3 := k3.put pw6 (by omega)
   replace hm2 := hm2.put k4 pw6 e4
   replace k4 := pw6.blk
   refine Zk7 0 1 2 3 4 9 23 (Zt (Cd.ret ?_))
   refine Post.endC rfl rfl k4 Tryz.underlying154 rfl (m := 2) (by kernel_rfl) rfl (.inl rfl) ?_
   exact ⟨_, rfl, ⟨m2, rfl, hm2⟩, bel⟩

theorem val_of (n : Nat) (h : n < 18446744073709551616) : val [n % 65536, n / 65536 % 65536, n / 4294967296 % 65536, n / 281474976710656] = n := by
 rw [val4]
 omega
theorem of_digits (w : World) (g n : Nat) (x0 x1 x2 x3 : Int) (t : TypeId) (cs : Array Value) (hcs : cs = #[.int .u64 x0, .int .u64 x1, .int .u64 x2, .int .u64 x3]) (hg : Blk w g t cs)
  (e0 : x0 = ((n % 65536 : Nat) : Int)) (e1 : x1 = ((n / 65536 % 65536 : Nat) : Int)) (e2 : x2 = ((n / 4294967296 % 65536 : Nat) : Int)) (e3 : x3 = ((n / 281474976710656 : Nat) : Int)) :
  Reads w w.heap.size 1 (some ⟨g, 0, none⟩) 4 (U [n % 65536, n / 65536 % 65536, n / 4294967296 % 65536, n / 281474976710656]) := by
 subst hcs e0 e1 e2 e3
 refine ⟨rfl, fun _ => ⟨_, rfl, hg.lt, fun j u hu => ?_⟩⟩
 have hadd : (⟨g, 0, none⟩ : Addr).add j = ⟨g, j, none⟩ := by unfold Addr.add; split <;> simp_all
 rw [hadd, hg.cell j]
 simpa [U] using hu

theorem run_build_Big (b : Bool) (m : Value) (h : m.oneCell' = true) (w : World) : (Instr.build 154 #[(0, .bool b), (1, m)]).run Tryz.prog w = .ok (.agg #[.bool b, m]) w := by
 have hu := Tryz.underlying154
 cases m <;> first | (cases h; done) | go_simp
theorem of_any (a : Int) (w : World) (h0 : -9223372036854775808 ≤ a) (h1 : a ≤ 9223372036854775807) :
  Calls Tryz.prog 114 #[.int .i64 a] w fun e w' => ∃ v, e = .returned v ∧ BigR w' v a ∧ Below w.heap.size w w' := by
 have hv := val_of a.natAbs (by omega)
 have hd : ∀ d ∈ [a.natAbs % 65536, a.natAbs / 65536 % 65536, a.natAbs / 4294967296 % 65536, a.natAbs / 281474976710656], d < 65536 := by
  intro d hd
  simp only [List.mem_cons, List.not_mem_nil, or_false] at hd
  omega
 have bel := Below.refl w.heap.size w
 refine Zs 25 Tryz.func114 ?_
 refine Zsr ?_
 refine Zl zero_debentureref01_Big ?_
 intro g2 w1 n2
 have e2 := Nat.le_trans bel.size n2.ge
 replace bel := bel.step n2.below
 have k2 := n2.blk
 refine Zk2 0 2 (Ztq ?_)
 refine Zm ?_
 refine Zv (Runs.convI rfl rfl Tryz.underlying2 Tryz.underlying162 (wrap_u64 a)) ?_
 refine Za ?_
 refine Zk3 0 2 3 (Zts (Zsr ?_))
 refine Zm ?_
 refine Zv (Runs.lss rfl rfl rfl) ?_
 refine Zk4 0 2 3 7 (Zt ?_)
 refine Cd.condD rfl (fun hc => ?_) (fun hc => ?_)
 ·skip
  refine Zr ?_
  refine Zm ?_
  refine Zv (Runs.neg rfl rfl (r := (a.natAbs : Int)) (by rw [wrap_u64]; omega)) ?_
  refine Za ?_
  refine Zk4 0 2 3 7 (Ztq ?_)
  refine Zm ?_
  refine Zv (Runs.lss rfl rfl rfl) ?_
  refine Zm ?_
  refine Zv (Runs.remN rfl rfl rfl (by omega) (by omega)) ?_
  refine Zm ?_
  refine Zv (Runs.quoU rfl rfl rfl (by omega) (by omega) (by omega)) ?_
  refine Zv (Runs.remN rfl rfl rfl (by omega) (by omega)) ?_
  refine Zm ?_
  refine Zv (Runs.quoU rfl rfl rfl (by omega) (by omega) (by omega)) ?_
  refine Zv (Runs.remN rfl rfl rfl (by omega) (by omega)) ?_
  refine Zm ?_
  refine Zv (Runs.quoU rfl rfl rfl (by omega) (by omega) (by omega)) ?_
  refine Seq.slice (vs := [_, _, _, _]) (s := 1) rfl rfl rfl Tryz.underlying152 (by kernel_rfl) (zero_uint64) (by omega) (by omega) ⟨rfl, rfl, rfl, rfl, trivial⟩ rfl rfl rfl ?_
  intro g22 w2 n22
  have e22 := Nat.le_trans bel.size n22.ge
  have l22 := Nat.lt_of_lt_of_le k2.lt n22.ge
  replace bel := bel.step n22.below
  replace k2 := k2.step n22.below
  have k22 := n22.blk
  have hr := of_digits _ g22 a.natAbs _ _ _ _ _ _ rfl k22 (by omega) (by omega) (by omega) (by omega)
  refine Zc (Ze Tryz.func150) (trim_any _ _ 4 4 _ _ hr (Nat.le_refl _) hd (by omega) (by omega)) ?_
  rintro e w7 ⟨rfl, rfl⟩
  have hm := mag_of_trim hr hd (Nat.le_refl 4) (by omega) hv
  have hm1 := hm.one
  refine ⟨_, rfl, ?_⟩
  rw [hv] at hm hm1 ⊢
  refine Zv (Runs.build rfl rfl (run_build_Big _ _ hm1 _)) ?_
  refine Zo 2 k2 ?_
  intro w3 pw3
  replace bel := bel.put k2 pw3 e2
  replace k22 := k22.put pw3 (by omega)
  replace hm := hm.put k2 pw3 e2
  replace k2 := pw3.blk
  refine Zk4 0 2 3 7 (Zt (Cd.ret ?_))
  refine Post.endC rfl rfl k2 Tryz.underlying154 rfl (m := 2) (by kernel_rfl) rfl (.inl rfl) ?_
  exact ⟨_, rfl, ⟨_, rfl, hm⟩, bel⟩
 ·skip
  refine Cd.skip (Ztq ?_)
  refine Zm ?_
  refine Zv (Runs.lss rfl rfl rfl) ?_
  refine Zm ?_
  refine Zv (Runs.remN rfl rfl rfl (by omega) (by omega)) ?_
  refine Zm ?_
  refine Zv (Runs.quoU rfl rfl rfl (by omega) (by omega) (by omega)) ?_
  refine Zv (Runs.remN rfl rfl rfl (by omega) (by omega)) ?_
  refine Zm ?_
  refine Zv (Runs.quoU rfl rfl rfl (by omega) (by omega) (by omega)) ?_
  refine Zv (Runs.remN rfl rfl rfl (by omega) (by omega)) ?_
  refine Zm ?_
  refine Zv (Runs.quoU rfl rfl rfl (by omega) (by omega) (by omega)) ?_
  refine Seq.slice (vs := [_, _, _, _]) (s := 1) rfl rfl rfl Tryz.underlying152 (by kernel_rfl) (zero_uint64) (by omega) (by omega) ⟨rfl, rfl, rfl, rfl, trivial⟩ rfl rfl rfl ?_
  intro g22 w2 n22
  have e22 := Nat.le_trans bel.size n22.ge
  have l22 := Nat.lt_of_lt_of_le k2.lt n22.ge
  replace bel := bel.step n22.below
  replace k2 := k2.step n22.below
  have k22 := n22.blk
  have hr := of_digits _ g22 a.natAbs _ _ _ _ _ _ rfl k22 (by omega) (by omega) (by omega) (by omega)
  refine Zc (Ze Tryz.func150) (trim_any _ _ 4 4 _ _ hr (Nat.le_refl _) hd (by omega) (by omega)) ?_
  rintro e w7 ⟨rfl, rfl⟩
  have hm := mag_of_trim hr hd (Nat.le_refl 4) (by omega) hv
  have hm1 := hm.one
  refine ⟨_, rfl, ?_⟩
  rw [hv] at hm hm1 ⊢
  refine Zv (Runs.build rfl rfl (run_build_Big _ _ hm1 _)) ?_
  refine Zo 2 k2 ?_
  intro w3 pw3
  replace bel := bel.put k2 pw3 e2
  replace k22 := k22.put pw3 (by omega)
  replace hm := hm.put k2 pw3 e2
  replace k2 := pw3.blk
  refine Zk4 0 2 3 7 (Zt (Cd.ret ?_))
  refine Post.endC rfl rfl k2 Tryz.underlying154 rfl (m := 2) (by kernel_rfl) rfl (.inl rfl) ?_
  exact ⟨_, rfl, ⟨_, rfl, hm⟩, bel⟩
end Go.Proofs.YtaamkfajnpobfaaGreat

namespace Go.Proofs.YtaamkfajnpobfaaGreat
open Go.RowKit

theorem cmpZ_gt {a b : Int} : (0 < cmpZ a b) ↔ b < a := by
 unfold cmpZ
 split
 ·constructor <;> intro h <;> omega
 ·split <;> constructor <;> intro h <;> omega
theorem cmpZ_lt {a b : Int} : (cmpZ a b < 0) ↔ a < b := by
 unfold cmpZ
 split
 ·constructor <;> intro h <;> omega
 ·split <;> constructor <;> intro h <;> omega
theorem big_of {n : Nat} (h : n < 1606938044258990275541962092341162602522202993782792835301376) : n < big := Nat.lt_of_lt_of_le h big_pos
theorem BigR.agg {w : World} {v : Value} {z : Int} (h : BigR w v z) : ∃ m, v = .agg #[.bool (decide (z < 0)), m] ∧ m.oneCell' = true ∧ MagR w m z.natAbs := by
 obtain ⟨m, e, hm⟩ := h
 exact ⟨m, e, hm.one, hm⟩
theorem BigR.put {w w' : World} {v : Value} {z : Int} {g B : Nat} {T : TypeId} {cur cs : Array Value} (h : BigR w v z) (k : Blk w g T cur) (p : Put w w' g T cs) (e : B ≤ g) (hcs : ∀ (k : IntKind) (z : Int), Value.int k z ∉ cur.toList := by simp [Value.cells, *]) : BigR w' v z := by
 obtain ⟨m, e1, hm⟩ := h
 exact ⟨m, e1, hm.put k p e hcs⟩
theorem minus_big (x : Value) (a : Int) (w : World) (hx : BigR w x a) (ha : a.natAbs < big) :
  Calls Tryz.prog 115 #[x] w fun e w' => ∃ v, e = .returned v ∧ Below w.heap.size w w' ∧ BigR w' v (-a) :=
 (minus_any x a w hx (by have := len_big (n := a.natAbs) (by omega); omega)).mono fun e w' ⟨v, he, h1, h2⟩ => ⟨v, he, h2, h1⟩
theorem plus_big (x y : Value) (a b : Int) (w : World) (hx : BigR w x a) (hy : BigR w y b) (ha : a.natAbs < big) (hb : b.natAbs < big) :
  Calls Tryz.prog 112 #[x, y] w fun e w' => ∃ v, e = .returned v ∧ Below w.heap.size w w' ∧ BigR w' v (a + b) :=
 (plus_any x y a b w hx hy ha hb).mono fun e w' ⟨v, he, h1, h2⟩ => ⟨v, he, h2, h1⟩
theorem of_big (a : Int) (w : World) (h0 : -9223372036854775808 ≤ a) (h1 : a ≤ 9223372036854775807) :
  Calls Tryz.prog 114 #[.int .i64 a] w fun e w' => ∃ v, e = .returned v ∧ Below w.heap.size w w' ∧ BigR w' v a :=
 (of_any a w h0 h1).mono fun e w' ⟨v, he, h1, h2⟩ => ⟨v, he, h2, h1⟩

theorem cmpB_any (x y : Value) (a b : Int) (w : World) (hx : BigR w x a) (hy : BigR w y b) (ha : a.natAbs < big) (hb : b.natAbs < big) :
  Calls Tryz.prog 151 #[x, y] w fun e w' => e = .returned (.int .i64 (cmpZ a b)) ∧ Below w.heap.size w w' := by
 have hx0 := hx
 have hy0 := hy
 obtain ⟨m, rfl, -, -⟩ := hx.agg
 obtain ⟨q, rfl, -, -⟩ := hy.agg
 have bel := Below.refl w.heap.size w
 refine Zs 16 Tryz.func151 ?_
 refine Zsr ?_
 refine Seq.box rfl rfl rfl rfl rfl ?_
 intro g2 w1 n2
 have e2 := Nat.le_trans bel.size n2.ge
 replace bel := bel.step n2.below
 replace hx := hx.step n2.below
 replace hy := hy.step n2.below
 have k2 := n2.blk
 refine Seq.box rfl rfl rfl rfl rfl ?_
 intro g3 w2 n3
 have e3 := Nat.le_trans bel.size n3.ge
 have l3 := Nat.lt_of_lt_of_le k2.lt n3.ge
 replace bel := bel.step n3.below
 replace hx := hx.step n3.below
 replace hy := hy.step n3.below
 replace k2 := k2.step n3.below
 have k3 := n3.blk
 refine Za ?_
 refine Zk5 0 1 2 3 4 (Zts ?_)
 refine Cd.draw 5 (by kernel_rfl) [] (.inl rfl) rfl Grow Grow.refl (fun _ _ _ => Grow.trans) ?_
 intro w3 hw3 zw3
 replace bel := bel.step hw3
 replace hx := hx.step hw3
 replace hy := hy.step hw3
 replace k2 := k2.step hw3
 replace k3 := k3.step hw3
 have zbel := bel.size
 have zlt := k3.lt
 refine Zd (fun w hG => Runs.loadW rfl rfl Tryz.underlying154 rfl (k2.step hG) (m := 2) (by kernel_rfl) rfl) ?_
 refine Zd (fun w hG => Runs.loadW rfl rfl Tryz.underlying154 rfl (k3.step hG) (m := 2) (by kernel_rfl) rfl) ?_
 refine Dr.call (Φ := fun v w => BigR w v (-b)) rfl (fun w => Ze Tryz.func115) rfl (BigR.stable _) (fun w hG => minus_big _ _ _ (hy.step hG) hb) ?_
 refine Dr.call1 (j := 2) (Φ := fun v w => BigR w v (a + -b)) rfl rfl rfl (fun u w => Ze Tryz.func112) rfl (BigR.stable _) (fun u w hG hu => plus_big _ u a (-b) _ (hx.step hG) hu ha (by omega)) ?_
 refine Dr.alloc rfl rfl (run_zero zero_debentureref01_Big) rfl ?_
 refine Dr.nil ?_
 refine FinX.open (j := 3) rfl ?_
 intro u3
 refine FinX.open (j := 4) rfl ?_
 intro u4
 refine FinX.done (F' := [(0, _), (1, _), (2, _), (3, _), (4, _), (5, _), (9, _)]) rfl ⟨rfl, rfl, rfl, rfl, rfl, rfl, rfl, trivial⟩ ?_
 intro w4 hw4 fw4
 replace bel := bel.step hw4
 replace hx := hx.step hw4
 replace hy := hy.step hw4
 replace k2 := k2.step hw4
 replace k3 := k3.step hw4
 obtain ⟨⟨-, h9⟩, g5, rfl, k5, e5⟩ := fw4
 obtain ⟨m9, rfl, o9, h9⟩ := h9.agg
 obtain ⟨A9, c9, rfl, b9, c9', r9⟩ := id h9
 have l5 := Nat.lt_of_lt_of_le zlt e5
 replace e5 := Nat.le_trans zbel e5
 refine Zo 2 k5 ?_
 intro w5 pw5
 replace bel := bel.put k5 pw5 e5
 replace hx := hx.put k5 pw5 e5
 replace hy := hy.put k5 pw5 e5
 replace k2 := k2.put pw5 (by omega)
 replace k3 := k3.put pw5 (by omega)
 replace h9 := h9.put k5 pw5 e5
 replace k5 := pw5.blk
 refine Zk6 0 1 2 3 4 5 (Zts (Zsr ?_))
 refine Zf 1 Tryz.underlying154 ?_
 refine Zv (Runs.loadB rfl rfl Tryz.underlying152 rfl k5 rfl) ?_
 refine Zv (Runs.len rfl rfl Tryz.underlying152) ?_
 refine Zv (Runs.eqlI rfl rfl rfl) ?_
 refine Zk7 0 1 2 3 4 5 13 (Zt ?_)
 refine Cd.condD rfl (fun hc => ?_) (fun hc => ?_)
 ·skip
  refine Zsr ?_
  refine Za ?_
  refine Zk7 0 1 2 3 4 5 13 (Zt (Cd.ret (Post.then_ret ?_)))
  refine Post.end1 rfl rfl (.inl rfl) ?_
  refine ⟨ret1 (int_eq ?_), bel⟩
  have h0 := (digs_len_zero (a + -b).natAbs).1 (by omega)
  unfold cmpZ
  rw [if_neg (by omega), if_pos (by omega)]
 ·skip
  refine Cd.skip (Zts (Zsr ?_))
  refine Zf 0 Tryz.underlying154 ?_
  refine Zv (Runs.loadB rfl rfl Tryz.underlying4 rfl k5 rfl) ?_
  refine Zk8 0 1 2 3 4 5 13 15 (Zt ?_)
  refine Cd.condD rfl (fun hc => ?_) (fun hc => ?_)
  ·skip
   refine Zsr ?_
   refine Za ?_
   refine Zk8 0 1 2 3 4 5 13 15 (Zt (Cd.ret (Post.then_ret ?_)))
   refine Post.end1 rfl rfl (.inl rfl) ?_
   refine ⟨ret1 (int_eq ?_), bel⟩
   unfold cmpZ
   rw [if_pos (by omega)]
  ·have h0 := mt (digs_len_zero (a + -b).natAbs).2 (by omega)
   refine Cd.skip (Ztq ?_)
   refine Za ?_
   refine Zk8 0 1 2 3 4 5 13 15 (Zt (Cd.ret ?_))
   refine Post.end1 rfl rfl (.inl rfl) ?_
   refine ⟨ret1 (int_eq ?_), bel⟩
   unfold cmpZ
   rw [if_neg (by omega), if_neg (by omega)]
theorem cmpB_grow (x y : Value) (a b : Int) (w : World) (hx : BigR w x a) (hy : BigR w y b) (ha : a.natAbs < big) (hb : b.natAbs < big) :
  Calls Tryz.prog 151 #[x, y] w fun e w' => e = .returned (.int .i64 (cmpZ a b)) ∧ Grow w w' := cmpB_any x y a b w hx hy ha hb
end Go.Proofs.YtaamkfajnpobfaaGreat

namespace Go.Proofs.YtaamkfajnpobfaaGreat
open Go.RowKit

theorem U_at {l : List Nat} {j d : Nat} (h : l[j]? = some d) : (U l).toArray[j]? = some (.int .u64 (d : Int)) := by simp [U, h]
theorem U_set (l : List Nat) (j d : Nat) : (U l).toArray.setIfInBounds j (.int .u64 (d : Int)) = (U (l.set j d)).toArray := by
 apply Array.ext'
 simp [U, List.map_set]
theorem U_zero (n : Nat) : (List.replicate n (Value.int .u64 0)).toArray = (U (List.replicate n 0)).toArray := by simp [U]
theorem val_set (l : List Nat) : ∀ (j d x : Nat), l[j]? = some x → val (l.set j d) + 65536 ^ j * x = val l + 65536 ^ j * d := by
 induction l with
 | nil => intro j d x h; simp at h
 | cons a l ih =>
  intro j d x h
  cases j with
  | zero =>
   obtain rfl : a = x := by simpa using h
   simp [val]; omega
  | succ j =>
   have := ih j d x (by simpa using h)
   rw [List.set_cons_succ, val, val, Nat.pow_succ, Nat.mul_right_comm, Nat.mul_right_comm _ _ d]
   omega
theorem set_lt {l : List Nat} (h : ∀ d ∈ l, d < 65536) (j v : Nat) (hv : v < 65536) : ∀ d ∈ l.set j v, d < 65536 := by
 intro d hd
 rcases List.mem_or_eq_of_mem_set hd with h1 | rfl
 ·exact h d h1
 ·exact hv
theorem val_zero (n : Nat) : val (List.replicate n 0) = 0 := by
 induction n with
 | zero => rfl
 | succ n ih => rw [List.replicate_succ, val, ih]
theorem digit_above (l : List Nat) (j x : Nat) (h : val l < 65536 ^ j) (hx : l[j]? = some x) : x = 0 := by
 have e := val_split l j x hx
 rcases Nat.eq_zero_or_pos x with h0 | h0
 ·exact h0
 ·exfalso
  have h1 : 65536 ^ j * 1 ≤ 65536 ^ j * (x + 65536 * val (l.drop (j + 1))) := Nat.mul_le_mul_left _ (by omega)
  omega
theorem get_lt {l : List Nat} (h : ∀ d ∈ l, d < 65536) {j d : Nat} (hj : l[j]? = some d) : d < 65536 := h d (List.mem_of_getElem? hj)
theorem times_step (P vl vl' x c v ai bk S : Nat) (h : vl' + P * c = S) (hv : v = x + ai * bk + c) (h2 : vl + P * x = vl' + P * (v % 65536)) : vl + P * 65536 * (v / 65536) = S + P * (ai * bk) := by
 have e0 : v % 65536 + 65536 * (v / 65536) = v := Nat.mod_add_div v 65536
 have e1 : P * v = P * (v % 65536) + P * 65536 * (v / 65536) := by rw [Nat.mul_assoc, ← Nat.mul_add, e0]
 have e2 : P * v = P * x + P * (ai * bk) + P * c := by rw [hv, Nat.mul_add, Nat.mul_add]
 omega

theorem trim_known (k : Nat) (A : Option Addr) (n cap : Nat) (l : List Nat) (w : World) (hr : Reads w w.heap.size 1 A n (U l)) (hd : ∀ d ∈ l, d < 65536) (hn : n ≤ 1073741824) (hc : n ≤ cap) (hk : (digs (val l)).length = k) :
  Calls Tryz.prog 150 #[.slice A n cap] w fun e w' => e = .returned (.slice A k cap) ∧ Grow w w' :=
 (trim_any _ A n cap l w hr (Nat.le_refl _) hd hn hc).mono fun e w' ⟨h1, h2⟩ => ⟨by rw [h1, hk], by rw [← h2]; exact Grow.refl _⟩
theorem sign_mul (a b : Int) : (decide (decide (a < 0) ≠ decide (b < 0)) && decide (0 < (a * b).natAbs)) = decide (a * b < 0) := by
 rcases Int.lt_trichotomy a 0 with h1 | h1 | h1 <;> rcases Int.lt_trichotomy b 0 with h2 | h2 | h2
 ·have := Int.mul_pos_of_neg_of_neg h1 h2
  simp [h1, h2]; omega
 ·subst h2; simp
 ·have := Int.mul_neg_of_neg_of_pos h1 h2
  have h3 : ¬ b < 0 := by omega
  simp [h1, h3, this]; omega
 ·subst h1; simp
 ·subst h1; simp
 ·subst h1; simp
 ·have := Int.mul_neg_of_pos_of_neg h1 h2
  have h3 : ¬ a < 0 := by omega
  simp [h2, h3, this]; omega
 ·subst h2; simp
 ·have := Int.mul_pos h1 h2
  have h3 : ¬ a < 0 := by omega
  have h4 : ¬ b < 0 := by omega
  simp [h3, h4]; omega

theorem times_any (x y : Value) (a b : Int) (w : World) (hx : BigR w x a) (hy : BigR w y b) (ha : a.natAbs < big) (hb : b.natAbs < big) :
  Calls Tryz.prog 113 #[x, y] w fun e w' => ∃ v, e = .returned v ∧ Below w.heap.size w w' ∧ BigR w' v (a * b) := by
 obtain ⟨m, rfl, om, hm⟩ := hx.agg
 obtain ⟨q, rfl, oq, hq⟩ := hy.agg
 have hla := len_big (n := a.natAbs) (by omega)
 have hlb := len_big (n := b.natAbs) (by omega)
 obtain ⟨A, ca, rfl, hca, hca2, hra⟩ := hm
 obtain ⟨B, cb, rfl, hcb, hcb2, hrb⟩ := hq
 generalize hma : (digs a.natAbs).length = la at *
 generalize hmb : (digs b.natAbs).length = lb at *
 have bel := Below.refl w.heap.size w
 refine Zs 87 Tryz.func113 ?_
 refine Zsr ?_
 refine Seq.box rfl rfl rfl rfl rfl ?_
 intro g2 w1 n2
 have e2 := Nat.le_trans bel.size n2.ge
 replace bel := bel.step n2.below
 have k2 := n2.blk
 refine Seq.box rfl rfl rfl rfl rfl ?_
 intro g3 w2 n3
 have e3 := Nat.le_trans bel.size n3.ge
 have l3 := Nat.lt_of_lt_of_le k2.lt n3.ge
 replace bel := bel.step n3.below
 replace k2 := k2.step n3.below
 have k3 := n3.blk
 refine Zl zero_debentureref01_Big ?_
 intro g4 w3 n4
 have e4 := Nat.le_trans bel.size n4.ge
 have l4 := Nat.lt_of_lt_of_le k3.lt n4.ge
 replace bel := bel.step n4.below
 replace k2 := k2.step n4.below
 replace k3 := k3.step n4.below
 have k4 := n4.blk
 refine Zk5 0 1 2 3 4 (Ztq ?_)
 refine Zf 1 Tryz.underlying154 ?_
 refine Zv (Runs.loadB rfl rfl Tryz.underlying152 rfl k2 rfl) ?_
 refine Zv (Runs.len rfl rfl Tryz.underlying152) ?_
 refine Zf 1 Tryz.underlying154 ?_
 refine Zv (Runs.loadB rfl rfl Tryz.underlying152 rfl k3 rfl) ?_
 refine Zv (Runs.len rfl rfl Tryz.underlying152) ?_
 refine Za_ ?_
 refine Za_ ?_
 refine Seq.make rfl rfl rfl Tryz.underlying152 (by kernel_rfl) zero_uint64 rfl (b := 8) (by kernel_rfl) (m := la + lb + 1) (by omega) (by omega) (by omega) rfl rfl rfl ?_
 intro g18 w4 n18
 have e18 := Nat.le_trans bel.size n18.ge
 have l18 := Nat.lt_of_lt_of_le k4.lt n18.ge
 replace bel := bel.step n18.below
 replace k2 := k2.step n18.below
 replace k3 := k3.step n18.below
 replace k4 := k4.step n18.below
 have k18 := n18.blk
 refine Za ?_
 refine Zk6 0 1 2 3 4 5 (Zts (Zsr ?_))
 refine Za ?_
 refine Zk7 0 1 2 3 4 5 6 (Zt (Cd.block ?_))
 rw [U_zero] at k18
 refine Cd.loop (σ := Nat × List Nat) (fun s => [(2, .pointer (some ⟨g2, 0, none⟩)), (3, .pointer (some ⟨g3, 0, none⟩)), (4, .pointer (some ⟨g4, 0, none⟩)), (5, .slice (some ⟨g18, 0, none⟩) (la + lb + 1) (la + lb + 1)), (6, .int .i64 (s.1 : Int))])
  (fun s wr => s.1 ≤ la ∧ s.2.length = la + lb + 1 ∧ (∀ d ∈ s.2, d < 65536) ∧ val s.2 = val ((digs a.natAbs).take s.1) * b.natAbs ∧ Below w.heap.size w wr ∧ Blk wr g2 154 #[.bool (decide (a < 0)), .slice A la ca] ∧ Blk wr g3 154 #[.bool (decide (b < 0)), .slice B lb cb] ∧ Blk wr g4 154 #[.bool false, .slice none 0 0] ∧ Blk wr g18 162 (U s.2).toArray)
  (fun s => la - s.1) (0, List.replicate (la + lb + 1) 0) ⟨by omega, by simp, by simp, by simp [val_zero, val], bel, k2, k3, k4, k18⟩ ⟨rfl, rfl, rfl, rfl, rfl, trivial⟩ ?_
 clear bel k2 k3 k4 k18
 rintro ⟨i, l⟩ wr ⟨hi, hl, hd, hv, bel, k2, k3, k4, k18⟩
 dsimp only at hi hl hd hv bel k2 k3 k4 k18 ⊢
 refine Cd.seq (Zsr ?_)
 refine Zm ?_
 refine Zf 1 Tryz.underlying154 ?_
 refine Zv (Runs.loadB rfl rfl Tryz.underlying152 rfl k2 rfl) ?_
 refine Zv (Runs.len rfl rfl Tryz.underlying152) ?_
 refine Zv (Runs.lss rfl rfl rfl) ?_
 refine Zk6 2 3 4 5 6 23 (Zt ?_)
 refine Cd.condD rfl (fun hc => ?_) (fun hc => ?_)
 ·obtain ⟨ad, p, rfl, hbp, hp, hcp⟩ := hra.dig bel (Nat.le_refl _) (show i < la by omega)
  have ci : Cell wr w.heap.size (ad.add i) (.int .u64 p) := ⟨by rw [block_of_add]; exact hbp, hcp⟩
  have hp2 := get_lt (digs_lt _) hp
  refine Cd.skip (Zts (Cd.block (Zsr ?_)))
  refine Za ?_
  refine Zk7 2 3 4 5 6 7 23 (Zts (Zsr ?_))
  refine Za ?_
  refine Zk8 2 3 4 5 6 7 8 23 (Zt (Cd.block ?_))
  refine Cd.loop (σ := Nat × Nat × List Nat) (fun s => [(2, .pointer (some ⟨g2, 0, none⟩)), (3, .pointer (some ⟨g3, 0, none⟩)), (4, .pointer (some ⟨g4, 0, none⟩)), (5, .slice (some ⟨g18, 0, none⟩) (la + lb + 1) (la + lb + 1)), (6, .int .i64 (i : Int)), (7, .int .u64 (s.2.1 : Int)), (8, .int .i64 (s.1 : Int))])
   (fun s wr => s.1 ≤ lb ∧ s.2.1 < 65536 ∧ s.2.2.length = la + lb + 1 ∧ (∀ d ∈ s.2.2, d < 65536) ∧ val s.2.2 + 65536 ^ (i + s.1) * s.2.1 = val l + 65536 ^ i * (p * val ((digs b.natAbs).take s.1)) ∧ (∀ j, i + s.1 ≤ j → s.2.2[j]? = l[j]?) ∧
    Below w.heap.size w wr ∧ Blk wr g2 154 #[.bool (decide (a < 0)), .slice (some ad) la ca] ∧ Blk wr g3 154 #[.bool (decide (b < 0)), .slice B lb cb] ∧ Blk wr g4 154 #[.bool false, .slice none 0 0] ∧ Blk wr g18 162 (U s.2.2).toArray ∧ Cell wr w.heap.size (ad.add i) (.int .u64 p))
   (fun s => lb - s.1) (0, 0, l) ⟨by omega, by simp, hl, hd, by simp [val], fun j _ => rfl, bel, k2, k3, k4, k18, ci⟩ ⟨rfl, rfl, rfl, rfl, rfl, rfl, rfl, trivial⟩ ?_
  clear bel k2 k3 k4 k18 ci
  rintro ⟨k, c, l'⟩ wr' ⟨hk, hc2, hl', hd', hv', hsame, bel, k2, k3, k4, k18, ci⟩
  dsimp only at hk hc2 hl' hd' hv' hsame bel k2 k3 k4 k18 ci ⊢
  refine Cd.seq (Zsr ?_)
  refine Zm ?_
  refine Zf 1 Tryz.underlying154 ?_
  refine Zv (Runs.loadB rfl rfl Tryz.underlying152 rfl k3 rfl) ?_
  refine Zv (Runs.len rfl rfl Tryz.underlying152) ?_
  refine Zv (Runs.lss rfl rfl rfl) ?_
  refine Zk8 2 3 4 5 6 7 8 30 (Zt ?_)
  refine Cd.condD rfl (fun hc => ?_) (fun hc => ?_)
  ·obtain ⟨bd, bk, rfl, hbb, hbk, hcb⟩ := hrb.dig bel (Nat.le_refl _) (show k < lb by omega)
   have cj : Cell wr' w.heap.size (bd.add k) (.int .u64 bk) := ⟨by rw [block_of_add]; exact hbb, hcb⟩
   have hbk2 := get_lt (digs_lt _) hbk
   obtain ⟨x, hx⟩ : ∃ x, l'[i + k]? = some x := ⟨_, List.getElem?_eq_getElem (show i + k < l'.length by omega)⟩
   have hx2 := get_lt hd' hx
   have hpb : p * bk ≤ 65535 * 65535 := Nat.mul_le_mul (by omega) (by omega)
   refine Cd.skip (Zts (Cd.block (Cd.seq ?_)))
   refine Cd.draw 20 (by kernel_rfl) [] (.inl rfl) rfl Grow Grow.refl (fun _ _ _ => Grow.trans) ?_
   intro w5 hw5 zw5
   replace bel := bel.step hw5
   replace k2 := k2.step hw5
   replace k3 := k3.step hw5
   replace k4 := k4.step hw5
   replace k18 := k18.step hw5
   replace ci := ci.step hw5
   replace cj := cj.step hw5
   have zbel := bel.size
   have zlt := k18.lt
   refine Zdm ?_
   refine Zdm ?_
   refine Zdm ?_
   refine Zd (fun w hG => Runs.addI rfl rfl rfl (by omega) (by omega)) ?_
   refine Zd (fun w hG => Runs.indexB rfl rfl rfl Tryz.underlying152 (by kernel_rfl) (j := i + k) (by omega) (by omega)) ?_
   refine Zd (fun w hG => Runs.loadB rfl rfl Tryz.underlying162 rfl (k18.step hG) (U_at hx)) ?_
   refine Zd (fun w hG => Runs.fieldB 1 rfl rfl Tryz.underlying154 rfl (by kernel_rfl)) ?_
   refine Zd (fun w hG => Runs.loadB rfl rfl Tryz.underlying152 rfl (k2.step hG) rfl) ?_
   refine Zdm ?_
   refine Zd (fun w hG => Runs.index1 rfl rfl rfl Tryz.underlying152 (by kernel_rfl) (j := i) rfl (by omega)) ?_
   refine Zd (fun w hG => Runs.load1 rfl rfl Tryz.underlying162 rfl (ci.step hG).val) ?_
   refine Zd (fun w hG => Runs.fieldB 1 rfl rfl Tryz.underlying154 rfl (by kernel_rfl)) ?_
   refine Zd (fun w hG => Runs.loadB rfl rfl Tryz.underlying152 rfl (k3.step hG) rfl) ?_
   refine Zdm ?_
   refine Zd (fun w hG => Runs.index1 rfl rfl rfl Tryz.underlying152 (by kernel_rfl) (j := k) rfl (by omega)) ?_
   refine Zd (fun w hG => Runs.load1 rfl rfl Tryz.underlying162 rfl (cj.step hG).val) ?_
   refine Zd (fun w hG => Runs.mulW rfl rfl rfl (r := ((p * bk : Nat) : Int)) (by rw [← Int.natCast_mul]; exact wrapU (by omega) (by omega))) ?_
   refine Zd (fun w hG => Runs.addW rfl rfl rfl (r := ((x + p * bk : Nat) : Int)) (by rw [← Int.natCast_add]; exact wrapU (by omega) (by omega))) ?_
   refine Zdm ?_
   refine Zd (fun w hG => Runs.addW rfl rfl rfl (r := ((x + p * bk + c : Nat) : Int)) (by rw [← Int.natCast_add]; exact wrapU (by omega) (by omega))) ?_
   refine Dr.nil ?_
   refine FinX.done (F' := [(2, _), (3, _), (4, _), (5, _), (6, _), (7, _), (8, _), (30, _), (52, _)]) rfl ⟨rfl, rfl, rfl, rfl, rfl, rfl, rfl, rfl, rfl, trivial⟩ ?_
   intro w6 hw6 fw6
   replace bel := bel.step hw6
   replace k2 := k2.step hw6
   replace k3 := k3.step hw6
   replace k4 := k4.step hw6
   replace k18 := k18.step hw6
   replace ci := ci.step hw6
   replace cj := cj.step hw6
   refine Za ?_
   refine Zk9 2 3 4 5 6 7 8 9 30 (Ztq ?_)
   refine Zm ?_
   refine Zm ?_
   refine Zm ?_
   refine Za_ ?_
   refine Zm ?_
   refine Zv (Runs.remL 65536 rfl rfl rfl rfl (by omega)) ?_
   refine Zv (Runs.indexB rfl rfl rfl Tryz.underlying152 (by kernel_rfl) (j := i + k) (by omega) (by omega)) ?_
   refine Seq.store1 rfl rfl rfl (by kernel_rfl) rfl rfl k18 (U_at hx) rfl rfl ?_
   intro w7 pw7
   replace bel := bel.put k18 pw7 e18
   replace k2 := k2.put pw7 (by omega)
   replace k3 := k3.put pw7 (by omega)
   replace k4 := k4.put pw7 (by omega)
   replace ci := ci.put k18 pw7 e18
   replace cj := cj.put k18 pw7 e18
   replace k18 := pw7.blk
   rw [U_set] at k18
   refine Zk9 2 3 4 5 6 7 8 9 30 (Ztr ?_)
   refine Zm ?_
   refine Zv (Runs.quoLU 65536 rfl rfl rfl rfl (by omega) (by omega)) ?_
   refine Za ?_
   refine Zk9 2 3 4 5 6 7 8 9 30 (Post.block_normal (Ztr ?_))
   refine Zm ?_
   refine Za_ ?_
   refine Za ?_
   refine Zk9 2 3 4 5 6 7 8 9 30 ?_
   refine Post.round (k + 1, (x + p * bk + c) / 65536, l'.set (i + k) ((x + p * bk + c) % 65536)) ⟨rfl, rfl, rfl, rfl, rfl, rfl, rfl, trivial⟩ ?_ (by dsimp only; omega)
   have hval := val_set l' (i + k) ((x + p * bk + c) % 65536) x hx
   refine ⟨by dsimp only; omega, by dsimp only; omega, by simp [hl'], set_lt hd' _ _ (by omega), ?_, ?_, bel, k2, k3, k4, k18, ci⟩
   ·dsimp only
    rw [val_take_succ, getD_of _ _ _ hbk, ← Nat.add_assoc, Nat.pow_succ]
    have := times_step (65536 ^ (i + k)) _ _ x c _ p bk _ hv' rfl hval
    rw [this, Nat.pow_add]
    rw [Nat.mul_add p, Nat.mul_add (65536 ^ i)]
    have e3 : 65536 ^ i * 65536 ^ k * (p * bk) = 65536 ^ i * (p * (65536 ^ k * bk)) := by rw [Nat.mul_assoc, Nat.mul_left_comm p (65536 ^ k) bk]
    omega
   ·intro j hj
    dsimp only at hj ⊢
    rw [List.getElem?_set_ne (by omega)]
    exact hsame j (by omega)
  ·obtain rfl : k = lb := by omega
   have hlt : val l < 65536 ^ (i + k) := by
    rw [hv, Nat.pow_add]
    have h1 := val_lt ((digs a.natAbs).take i) (fun d hd => digs_lt _ d (List.mem_of_mem_take hd))
    rw [List.length_take, hma, Nat.min_eq_left (by omega)] at h1
    have h2 := lt_of_digs_len b.natAbs
    rw [hmb] at h2
    exact Nat.mul_lt_mul_of_lt_of_lt h1 h2
   obtain ⟨x, hx0⟩ : ∃ x, l[i + k]? = some x := ⟨_, List.getElem?_eq_getElem (show i + k < l.length by omega)⟩
   obtain rfl := digit_above l (i + k) x hlt hx0
   have hx : l'[i + k]? = some 0 := by rw [hsame _ (by omega), hx0]
   have hval : val (l'.set (i + k) (0 + c)) = val l' + 65536 ^ (i + k) * c := by have := val_set l' (i + k) (0 + c) 0 hx; simpa using this
   refine Cd.exit (Post.then_exit (Post.round_exit (Post.block_exit (Zt ?_))))
   refine Cd.draw 17 (by kernel_rfl) [] (.inl rfl) rfl Grow Grow.refl (fun _ _ _ => Grow.trans) ?_
   intro w5 hw5 zw5
   replace bel := bel.step hw5
   replace k2 := k2.step hw5
   replace k3 := k3.step hw5
   replace k4 := k4.step hw5
   replace k18 := k18.step hw5
   replace ci := ci.step hw5
   have zbel := bel.size
   have zlt := k18.lt
   refine Zdm ?_
   refine Zdm ?_
   refine Zd (fun w hG => Runs.fieldB 1 rfl rfl Tryz.underlying154 rfl (by kernel_rfl)) ?_
   refine Zd (fun w hG => Runs.loadB rfl rfl Tryz.underlying152 rfl (k3.step hG) rfl) ?_
   refine Zd (fun w hG => Runs.len rfl rfl Tryz.underlying152) ?_
   refine Zd (fun w hG => Runs.addI rfl rfl rfl (by omega) (by omega)) ?_
   refine Zdm ?_
   refine Zdm ?_
   refine Zd (fun w hG => Runs.fieldB 1 rfl rfl Tryz.underlying154 rfl (by kernel_rfl)) ?_
   refine Zd (fun w hG => Runs.loadB rfl rfl Tryz.underlying152 rfl (k3.step hG) rfl) ?_
   refine Zd (fun w hG => Runs.len rfl rfl Tryz.underlying152) ?_
   refine Zd (fun w hG => Runs.addI rfl rfl rfl (by omega) (by omega)) ?_
   refine Zd (fun w hG => Runs.indexB rfl rfl rfl Tryz.underlying152 (by kernel_rfl) (j := i + k) (by omega) (by omega)) ?_
   refine Zd (fun w hG => Runs.loadB rfl rfl Tryz.underlying162 rfl (k18.step hG) (U_at hx)) ?_
   refine Zdm ?_
   refine Zd (fun w hG => Runs.addLU rfl rfl rfl (by omega)) ?_
   refine Zd (fun w hG => Runs.indexB rfl rfl rfl Tryz.underlying152 (by kernel_rfl) (j := i + k) (by omega) (by omega)) ?_
   refine Dr.nil ?_
   refine FinX.done (F' := [(2, _), (3, _), (4, _), (5, _), (6, _), (7, _), (8, _), (30, _), (77, _), (78, _)]) rfl ⟨rfl, rfl, rfl, rfl, rfl, rfl, rfl, rfl, rfl, rfl, trivial⟩ ?_
   intro w6 hw6 fw6
   replace bel := bel.step hw6
   replace k2 := k2.step hw6
   replace k3 := k3.step hw6
   replace k4 := k4.step hw6
   replace k18 := k18.step hw6
   replace ci := ci.step hw6
   refine Seq.store1 rfl rfl rfl (by kernel_rfl) rfl rfl k18 (U_at hx) rfl rfl ?_
   intro w7 pw7
   replace bel := bel.put k18 pw7 e18
   replace k2 := k2.put pw7 (by omega)
   replace k3 := k3.put pw7 (by omega)
   replace k4 := k4.put pw7 (by omega)
   replace ci := ci.put k18 pw7 e18
   replace k18 := pw7.blk
   rw [U_set] at k18
   refine Zk8 2 3 4 5 6 7 8 30 (Post.block_normal (Ztr ?_))
   refine Zm ?_
   refine Za_ ?_
   refine Za ?_
   refine Zk8 2 3 4 5 6 7 8 30 ?_
   refine Post.round (i + 1, l'.set (i + k) (0 + c)) ⟨rfl, rfl, rfl, rfl, rfl, trivial⟩ ?_ (by dsimp only; omega)
   refine ⟨by dsimp only; omega, by simp [hl'], set_lt hd' _ _ (by omega), ?_, bel, k2, k3, k4, k18⟩
   dsimp only
   rw [val_take_succ, getD_of _ _ _ hp, Nat.add_mul, ← hv]
   rw [List.take_of_length_le (by omega), val_digs] at hv'
   rw [Nat.mul_assoc]
   omega
 ·obtain rfl : i = la := by omega
  rw [List.take_of_length_le (by omega), val_digs] at hv
  refine Cd.exit (Post.then_exit (Post.round_exit (Post.block_exit (Zts ?_))))
  refine Cd.draw 8 (by kernel_rfl) [] (.inl rfl) rfl Grow Grow.refl (fun _ _ _ => Grow.trans) ?_
  intro w5 hw5 zw5
  replace bel := bel.step hw5
  replace k2 := k2.step hw5
  replace k3 := k3.step hw5
  replace k4 := k4.step hw5
  replace k18 := k18.step hw5
  have zbel := bel.size
  have zlt := k18.lt
  refine Zd (fun w hG => Runs.fieldB 0 rfl rfl Tryz.underlying154 rfl (by kernel_rfl)) ?_
  refine Zd (fun w hG => Runs.loadB rfl rfl Tryz.underlying4 rfl (k2.step hG) rfl) ?_
  refine Zd (fun w hG => Runs.fieldB 0 rfl rfl Tryz.underlying154 rfl (by kernel_rfl)) ?_
  refine Zd (fun w hG => Runs.loadB rfl rfl Tryz.underlying4 rfl (k3.step hG) rfl) ?_
  refine Zd (fun w hG => Runs.neqB rfl rfl rfl Tryz.underlying4) ?_
  refine Zdm ?_
  have hlen18 : (digs (a * b).natAbs).length ≤ i + lb + 1 := by
   rw [Int.natAbs_mul, ← hv, ← hl]
   exact digs_len_le _ _ (val_lt l hd)
  have hr18 : Reads w5 w5.heap.size 1 (some ⟨g18, 0, none⟩) (i + lb + 1) (U l) := by
   refine ⟨by rw [length_U]; omega, fun _ => ⟨_, rfl, k18.lt, fun j u hu => ?_⟩⟩
   have hadd : (⟨g18, 0, none⟩ : Addr).add j = ⟨g18, j, none⟩ := by unfold Addr.add; split <;> simp_all
   rw [hadd, k18.cell j]
   simpa using hu
  have hm18 : MagR w5 (.slice (some ⟨g18, 0, none⟩) (digs (a * b).natAbs).length (i + lb + 1)) (a * b).natAbs := by
   have := mag_of_trim hr18 hd (Nat.le_refl _) (by omega) (show val l = (a * b).natAbs by rw [hv, Int.natAbs_mul])
   rwa [show val l = (a * b).natAbs by rw [hv, Int.natAbs_mul]] at this
  refine Dr.callV rfl (fun w => Ze Tryz.func150) rfl (fun w hG => trim_known _ _ _ _ l w ((hr18.below (show Below w5.heap.size w5 w from hG)).more hG.size) hd (by omega) (by omega) (show (digs (val l)).length = (digs (a * b).natAbs).length by rw [hv, Int.natAbs_mul])) ?_
  refine Dr.call (Φ := fun v w => BigR w v (a * b)) rfl (fun w => Ze Tryz.func146) rfl (BigR.stable _) (fun w hG => sign_big _ _ _ (a * b) _ (hm18.step hG) (by omega) rfl (sign_mul a b)) ?_
  refine Dr.nil ?_
  refine FinX.open (j := 7) rfl ?_
  intro u7
  refine FinX.done (F' := [(2, _), (3, _), (4, _), (5, _), (6, _), (23, _), (86, _)]) rfl ⟨rfl, rfl, rfl, rfl, rfl, rfl, rfl, trivial⟩ ?_
  intro w6 hw6 fw6
  replace bel := bel.step hw6
  replace k2 := k2.step hw6
  replace k3 := k3.step hw6
  replace k4 := k4.step hw6
  replace k18 := k18.step hw6
  obtain ⟨m9, rfl, o9, h9⟩ := (by assumption : True ∧ BigR _ _ _).2.agg
  refine Zo 2 k4 ?_
  intro w7 pw7
  replace bel := bel.put k4 pw7 e4
  replace k2 := k2.put pw7 (by omega)
  replace k3 := k3.put pw7 (by omega)
  replace k18 := k18.put pw7 (by omega)
  replace h9 := h9.put k4 pw7 e4
  replace k4 := pw7.blk
  refine Zk6 2 3 4 5 6 23 (Zt (Cd.ret ?_))
  refine Post.endC rfl rfl k4 Tryz.underlying154 rfl (m := 2) (by kernel_rfl) rfl (.inl rfl) ?_
  exact ⟨_, rfl, bel, _, rfl, h9⟩
theorem times_grow (x y : Value) (a b : Int) (w : World) (hx : BigR w x a) (hy : BigR w y b) (ha : a.natAbs < big) (hb : b.natAbs < big) :
  Calls Tryz.prog 113 #[x, y] w fun e w' => ∃ v, e = .returned v ∧ Grow w w' ∧ BigR w' v (a * b) := times_any x y a b w hx hy ha hb
end Go.Proofs.YtaamkfajnpobfaaGreat

namespace Go.Proofs.YtaamkfajnpobfaaGreat
open Go.RowKit

def valFrom (l : List Nat) (k : Nat) : Nat := val (l.drop k)
theorem valFrom_step (l : List Nat) (k d : Nat) (h : l[k]? = some d) : valFrom l k = d + 65536 * valFrom l (k + 1) := by
 obtain ⟨hk, rfl⟩ := List.getElem?_eq_some_iff.1 h
 unfold valFrom
 rw [List.drop_eq_getElem_cons hk, val]
theorem valFrom_le (l : List Nat) (k : Nat) : valFrom l k ≤ val l := by
 have := val_append (l.take k) (l.drop k)
 rw [List.take_append_drop] at this
 unfold valFrom
 have h1 : 1 * val (l.drop k) ≤ 65536 ^ (l.take k).length * val (l.drop k) := Nat.mul_le_mul_right _ (Nat.pos_of_ne_zero (by simp))
 omega

theorem small_any (x : Value) (a : Int) (w : World) (hx : BigR w x a) (ha : a.natAbs < big) :
  Calls Tryz.prog 116 #[x] w fun e w' => e = .returned (.tuple #[.int .i64 (smallOf a), .bool (fits a)]) ∧ Below w.heap.size w w' := by
 obtain ⟨m, rfl, om, hm⟩ := hx.agg
 have bel := Below.refl w.heap.size w
 by_cases hgt : 9223372036854775807 < a
 ·have hf := fits_not (.inr hgt)
  have hs : smallOf a = 0 := by unfold smallOf; rw [hf]; rfl
  rw [hf, hs]
  refine Zs 38 Tryz.func116 ?_
  refine Zsr ?_
  refine Seq.box rfl rfl rfl rfl rfl ?_
  intro g1 w1 n1
  have e1 := Nat.le_trans bel.size n1.ge
  replace bel := bel.step n1.below
  replace hx := hx.step n1.below
  have k1 := n1.blk
  refine Za ?_
  refine Za ?_
  refine Zk4 0 1 2 3 (Zts (Cd.seq ?_))
  refine Cd.draw 10 (by kernel_rfl) [] (.inl rfl) rfl Grow Grow.refl (fun _ _ _ => Grow.trans) ?_
  intro w2 hw2 zw2
  replace bel := bel.step hw2
  replace hx := hx.step hw2
  replace k1 := k1.step hw2
  have zbel := bel.size
  have zlt := k1.lt
  refine Zd (fun w hG => Runs.loadW rfl rfl Tryz.underlying154 rfl (k1.step hG) (m := 2) (by kernel_rfl) rfl) ?_
  refine Dr.call (Φ := fun v w => BigR w v 9223372036854775807) rfl (fun w => Ze Tryz.func114) rfl (BigR.stable _) (fun w hG => of_big _ _ (by omega) (by omega)) ?_
  refine Dr.call1V (j := 1) rfl rfl rfl (fun u w => Ze Tryz.func151) rfl (fun u w hG hu => cmpB_grow _ u a _ _ (hx.step hG) hu ha (big_of (by decide))) ?_
  refine Zd (fun w hG => (Runs.gtr rfl rfl rfl).isT (cmpZ_gt.2 hgt)) ?_
  refine Zdm ?_
  refine Zds ?_
  refine Zds ?_
  refine Zds ?_
  refine Zds ?_
  refine Zd (fun w hG => Runs.pickT rfl rfl rfl) ?_
  refine Dr.nil ?_
  refine FinX.done (F' := [(0, _), (1, _), (2, _), (3, _), (15, _)]) rfl ⟨rfl, rfl, rfl, rfl, rfl, trivial⟩ ?_
  intro w3 hw3 fw3
  replace bel := bel.step hw3
  replace hx := hx.step hw3
  replace k1 := k1.step hw3
  refine Zk5 0 1 2 3 15 (Zt ?_)
  refine Cd.condT rfl rfl ?_
  refine Zsr ?_
  refine Za ?_
  refine Za ?_
  refine Zk5 0 1 2 3 15 (Zt (Cd.ret (Post.then_ret ?_)))
  refine Post.end2 rfl rfl rfl (.inl rfl) ?_
  exact ⟨rfl, bel⟩
 ·by_cases hlt : a < -9223372036854775808
  ·have hf := fits_not (.inl hlt)
   have hs : smallOf a = 0 := by unfold smallOf; rw [hf]; rfl
   rw [hf, hs]
   refine Zs 38 Tryz.func116 ?_
   refine Zsr ?_
   refine Seq.box rfl rfl rfl rfl rfl ?_
   intro g1 w1 n1
   have e1 := Nat.le_trans bel.size n1.ge
   replace bel := bel.step n1.below
   replace hx := hx.step n1.below
   have k1 := n1.blk
   refine Za ?_
   refine Za ?_
   refine Zk4 0 1 2 3 (Zts (Cd.seq ?_))
   refine Cd.draw 10 (by kernel_rfl) [] (.inl rfl) rfl Grow Grow.refl (fun _ _ _ => Grow.trans) ?_
   intro w2 hw2 zw2
   replace bel := bel.step hw2
   replace hx := hx.step hw2
   replace k1 := k1.step hw2
   have zbel := bel.size
   have zlt := k1.lt
   refine Zd (fun w hG => Runs.loadW rfl rfl Tryz.underlying154 rfl (k1.step hG) (m := 2) (by kernel_rfl) rfl) ?_
   refine Dr.call (Φ := fun v w => BigR w v 9223372036854775807) rfl (fun w => Ze Tryz.func114) rfl (BigR.stable _) (fun w hG => of_big _ _ (by omega) (by omega)) ?_
   refine Dr.call1V (j := 1) rfl rfl rfl (fun u w => Ze Tryz.func151) rfl (fun u w hG hu => cmpB_grow _ u a _ _ (hx.step hG) hu ha (big_of (by decide))) ?_
   refine Zd (fun w hG => (Runs.gtr rfl rfl rfl).isF (mt cmpZ_gt.1 hgt)) ?_
   refine Zdm ?_
   refine Zdg (fun w hG => Runs.loadW rfl rfl Tryz.underlying154 rfl (k1.step hG) (m := 2) (by kernel_rfl) rfl) ?_
   refine Dr.callG (Φ := fun v w => BigR w v (-9223372036854775808)) rfl (fun w => Ze Tryz.func114) rfl rfl rfl (BigR.stable _) (fun w hG => of_big _ _ (by omega) (by omega)) ?_
   refine Dr.call1VG (j := 6) rfl rfl rfl (fun u w => Ze Tryz.func151) rfl rfl (fun _ => rfl) (fun u w hG hu => cmpB_grow _ u a _ _ (hx.step hG) hu ha (big_of (by decide))) ?_
   refine Zdg (fun w hG => (Runs.lss rfl rfl rfl).isT (cmpZ_lt.2 hlt)) ?_
   refine Zd (fun w hG => Runs.pickF rfl rfl rfl) ?_
   refine Dr.nil ?_
   refine FinX.done (F' := [(0, _), (1, _), (2, _), (3, _), (15, _)]) rfl ⟨rfl, rfl, rfl, rfl, rfl, trivial⟩ ?_
   intro w3 hw3 fw3
   replace bel := bel.step hw3
   replace hx := hx.step hw3
   replace k1 := k1.step hw3
   refine Zk5 0 1 2 3 15 (Zt ?_)
   refine Cd.condT rfl rfl ?_
   refine Zsr ?_
   refine Za ?_
   refine Za ?_
   refine Zk5 0 1 2 3 15 (Zt (Cd.ret (Post.then_ret ?_)))
   refine Post.end2 rfl rfl rfl (.inl rfl) ?_
   exact ⟨rfl, bel⟩
  ·have hf := fits_of (a := a) (by omega) (by omega)
   have hs : smallOf a = a := by unfold smallOf; rw [if_pos hf]
   rw [hf, hs]
   obtain ⟨A, cm, rfl, hcm, hcm2, hrm⟩ := id hm
   have hlen : (digs a.natAbs).length ≤ 61 := len_big (by omega)
   have hba : a.natAbs < 18446744073709551616 := by omega
   generalize hL : (digs a.natAbs).length = L at *
   refine Zs 38 Tryz.func116 ?_
   refine Zsr ?_
   refine Seq.box rfl rfl rfl rfl rfl ?_
   intro g1 w1 n1
   have e1 := Nat.le_trans bel.size n1.ge
   replace bel := bel.step n1.below
   replace hx := hx.step n1.below
   have k1 := n1.blk
   refine Za ?_
   refine Za ?_
   refine Zk4 0 1 2 3 (Zts (Cd.seq ?_))
   refine Cd.draw 10 (by kernel_rfl) [] (.inl rfl) rfl Grow Grow.refl (fun _ _ _ => Grow.trans) ?_
   intro w2 hw2 zw2
   replace bel := bel.step hw2
   replace hx := hx.step hw2
   replace k1 := k1.step hw2
   have zbel := bel.size
   have zlt := k1.lt
   refine Zd (fun w hG => Runs.loadW rfl rfl Tryz.underlying154 rfl (k1.step hG) (m := 2) (by kernel_rfl) rfl) ?_
   refine Dr.call (Φ := fun v w => BigR w v 9223372036854775807) rfl (fun w => Ze Tryz.func114) rfl (BigR.stable _) (fun w hG => of_big _ _ (by omega) (by omega)) ?_
   refine Dr.call1V (j := 1) rfl rfl rfl (fun u w => Ze Tryz.func151) rfl (fun u w hG hu => cmpB_grow _ u a _ _ (hx.step hG) hu ha (big_of (by decide))) ?_
   refine Zd (fun w hG => (Runs.gtr rfl rfl rfl).isF (mt cmpZ_gt.1 hgt)) ?_
   refine Zdm ?_
   refine Zdg (fun w hG => Runs.loadW rfl rfl Tryz.underlying154 rfl (k1.step hG) (m := 2) (by kernel_rfl) rfl) ?_
   refine Dr.callG (Φ := fun v w => BigR w v (-9223372036854775808)) rfl (fun w => Ze Tryz.func114) rfl rfl rfl (BigR.stable _) (fun w hG => of_big _ _ (by omega) (by omega)) ?_
   refine Dr.call1VG (j := 6) rfl rfl rfl (fun u w => Ze Tryz.func151) rfl rfl (fun _ => rfl) (fun u w hG hu => cmpB_grow _ u a _ _ (hx.step hG) hu ha (big_of (by decide))) ?_
   refine Zdg (fun w hG => (Runs.lss rfl rfl rfl).isF (mt cmpZ_lt.1 hlt)) ?_
   refine Zd (fun w hG => Runs.pickF rfl rfl rfl) ?_
   refine Dr.nil ?_
   refine FinX.done (F' := [(0, _), (1, _), (2, _), (3, _), (15, _)]) rfl ⟨rfl, rfl, rfl, rfl, rfl, trivial⟩ ?_
   intro w3 hw3 fw3
   replace bel := bel.step hw3
   replace hx := hx.step hw3
   replace k1 := k1.step hw3
   refine Zk5 0 1 2 3 15 (Zt ?_)
   refine Cd.condF rfl rfl ?_
   refine Cd.skip (Ztq ?_)
   refine Za ?_
   refine Zk6 0 1 2 3 4 15 (Zts (Zsr ?_))
   refine Zf 1 Tryz.underlying154 ?_
   refine Zv (Runs.loadB rfl rfl Tryz.underlying152 rfl k1 rfl) ?_
   refine Zv (Runs.len rfl rfl Tryz.underlying152) ?_
   refine Zv (Runs.subI rfl rfl rfl (by omega) (by omega)) ?_
   refine Za ?_
   refine Zk7 0 1 2 3 4 5 15 (Zt (Cd.block ?_))
   refine Cd.loop (σ := Nat) (fun k => [(1, .pointer (some ⟨g1, 0, none⟩)), (2, .int .i64 0), (3, .bool false), (4, .int .u64 (valFrom (digs a.natAbs) k : Int)), (5, .int .i64 ((k : Int) - 1))])
    (fun k wr => k ≤ L ∧ Below w.heap.size w wr ∧ Blk wr g1 154 #[.bool (decide (a < 0)), .slice A L cm]) (fun k => k) L ⟨Nat.le_refl _, bel, k1⟩ ⟨rfl, rfl, rfl, ?_, rfl, trivial⟩ ?_
   ·show some (Value.int .u64 0) = _
    unfold valFrom
    rw [List.drop_of_length_le (by omega)]; rfl
   clear bel hx k1
   rintro k wr ⟨hk, bel, k1⟩
   have hvl := valFrom_le (digs a.natAbs) k
   rw [val_digs] at hvl
   refine Cd.seq (Zsr ?_)
   refine Zm ?_
   refine Zv (Runs.geq rfl rfl rfl) ?_
   refine Zk6 1 2 3 4 5 21 (Zt ?_)
   refine Cd.condD rfl (fun hc => ?_) (fun hc => ?_)
   ·obtain ⟨j, rfl⟩ : ∃ j, k = j + 1 := ⟨k - 1, by omega⟩
    obtain ⟨ad, p, rfl, hbp, hp, hcp⟩ := hrm.dig bel (Nat.le_refl _) (show j < L by omega)
    have hst := valFrom_step _ _ _ hp
    have hvl2 := valFrom_le (digs a.natAbs) j
    rw [val_digs] at hvl2
    refine Cd.skip (Zts (Cd.block (Zr ?_)))
    refine Zm ?_
    refine Zv (Runs.mulU rfl rfl rfl (by omega) (by omega)) ?_
    refine Zf 1 Tryz.underlying154 ?_
    refine Zv (Runs.loadB rfl rfl Tryz.underlying152 rfl k1 rfl) ?_
    refine Zm ?_
    refine Zv (Runs.index1 rfl rfl rfl Tryz.underlying152 (by kernel_rfl) (j := j) (by omega) (by omega)) ?_
    refine Zv (Runs.load1 rfl rfl Tryz.underlying162 rfl hcp) ?_
    refine Zv (Runs.addW rfl rfl rfl (r := ((valFrom (digs a.natAbs) j : Nat) : Int)) (by rw [hst]; exact (wrapU (by omega) (by omega)).trans (by omega))) ?_
    refine Za ?_
    refine Zk6 1 2 3 4 5 21 (Post.block_normal (Ztr ?_))
    refine Zm ?_
    refine Zv (Runs.subI rfl rfl rfl (by omega) (by omega)) ?_
    refine Za ?_
    refine Zk6 1 2 3 4 5 21 ?_
    refine Post.round j ⟨rfl, rfl, rfl, rfl, ?_, trivial⟩ ⟨by omega, bel, k1⟩ (Nat.lt_succ_self _)
    show some (Value.int .i64 (((j + 1 : Nat) : Int) - 1 - 1)) = _
    rw [show ((j + 1 : Nat) : Int) - 1 - 1 = (j : Int) - 1 from by omega]
   ·obtain rfl : k = 0 := by omega
    have hv0 : valFrom (digs a.natAbs) 0 = a.natAbs := val_digs _
    rw [hv0]
    refine Cd.exit (Post.then_exit (Post.round_exit (Post.block_exit (Zts (Zsr ?_)))))
    refine Zf 0 Tryz.underlying154 ?_
    refine Zv (Runs.loadB rfl rfl Tryz.underlying4 rfl k1 rfl) ?_
    refine Zk7 1 2 3 4 5 21 33 (Zt ?_)
    refine Cd.condD rfl (fun hc => ?_) (fun hc => ?_)
    ·skip
     refine Zr ?_
     refine Zm ?_
     refine Zv (Runs.neg rfl rfl (r := ((a % 18446744073709551616 : Int))) (by rw [wrap_u64]; omega)) ?_
     refine Za ?_
     refine Zk7 1 2 3 4 5 21 33 (Ztq ?_)
     refine Zm ?_
     refine Zv (Runs.convI rfl rfl Tryz.underlying162 Tryz.underlying2 (k' := .i64) (r := a) (by rw [IntKind.wrap_i64]; omega)) ?_
     refine Za ?_
     refine Za ?_
     refine Zk7 1 2 3 4 5 21 33 (Zt (Cd.ret ?_))
     refine Post.end2 rfl rfl rfl (.inl rfl) ?_
     exact ⟨rfl, bel⟩
    ·skip
     refine Cd.skip (Ztq ?_)
     refine Zm ?_
     refine Zv (Runs.convI rfl rfl Tryz.underlying162 Tryz.underlying2 (k' := .i64) (r := a) (by rw [IntKind.wrap_i64]; omega)) ?_
     refine Za ?_
     refine Za ?_
     refine Zk7 1 2 3 4 5 21 33 (Zt (Cd.ret ?_))
     refine Post.end2 rfl rfl rfl (.inl rfl) ?_
     exact ⟨rfl, bel⟩
end Go.Proofs.YtaamkfajnpobfaaGreat

namespace Go.Proofs.YtaamkfajnpobfaaGreat
open Go.RowKit

theorem small_big' (x : Value) (a : Int) (w : World) (hx : BigR w x a) (ha : a.natAbs < big) :
  Calls Tryz.prog 116 #[x] w fun e w' => e = .returned (.tuple #[.int .i64 (smallOf a), .bool (fits a)]) ∧ Grow w w' := small_any x a w hx ha
theorem run_build_Big0 (w : World) : (Instr.build 154 #[]).run Tryz.prog w = .ok (.agg #[.bool false, .slice none 0 0]) w := by
 have hu := Tryz.underlying154
 go_simp
theorem digs_0 : digs 0 = [] := by unfold digs; rfl
theorem MagR.zero (w : World) : MagR w (.slice none 0 0) 0 := ⟨none, 0, by rw [digs_0]; rfl, by rw [digs_0]; simp, by omega, by rw [digs_0]; exact Reads.none_⟩
theorem Reads.otherU {w w' : World} {B n g : Nat} {A : Option Addr} {l : List Nat} {cs : Array Value} {t : TypeId} {fr : Nat × Nat} (h : Reads w B 1 A n (U l)) (hg : w.heap[g]? = some (.cells cs t fr)) (hcs : ∀ (z : Int), Value.int .u64 z ∉ cs.toList)
  (hgr : w.grownBy w' (some g)) : Reads w' B 1 A n (U l) := by
 refine ⟨h.1, fun hn => ?_⟩
 obtain ⟨ad, hA, hb, hc⟩ := h.2 hn
 refine ⟨ad, hA, hb, fun j u hu => ?_⟩
 have h1 := hc j u hu
 have hne : (ad.add j).block ≠ g := by
  intro he
  rw [get_U] at hu
  cases hl : l[j]? with
  | none => rw [hl] at hu; cases hu
  | some d =>
   rw [hl] at hu
   injection hu with hu
   subst hu
   unfold World.cell? at h1
   rw [he, hg] at h1
   simp only at h1
   split at h1
   ·cases h1
   ·exact hcs _ (Array.mem_toList_iff.2 (Array.mem_of_getElem? h1))
 have hlt : (ad.add j).block < w.heap.size := by
  unfold World.cell? at h1
  rcases Nat.lt_or_ge (ad.add j).block w.heap.size with h2 | h2
  ·exact h2
  ·rw [Array.getElem?_eq_none h2] at h1; cases h1
 rw [← h1]
 unfold World.cell?
 rw [hgr.block _ hlt (by intro e; injection e with e; exact hne e)]
structure MagU (w : World) (m : Value) (n : Nat) : Prop where
 mag : MagR w m n
theorem MagU.step {w w' : World} {m : Value} {n : Nat} (h : MagU w m n) (hb : Below w.heap.size w w') : MagU w' m n := ⟨h.mag.step hb⟩
theorem MagU.put {w w' : World} {m : Value} {n g B : Nat} {T : TypeId} {cur cs : Array Value} (h : MagU w m n) (k : Blk w g T cur) (p : Put w w' g T cs) (_e : B ≤ g) (hcs : ∀ (z : Int), Value.int .u64 z ∉ cur.toList := by simp [Value.cells, *]) : MagU w' m n := by
 obtain ⟨A, c, e, h1, h2, h3⟩ := h.mag
 exact ⟨A, c, e, h1, h2, (h3.otherU k hcs p.grown).more p.grown.size⟩
theorem MagU.big {w : World} {m : Value} {r : Nat} (h : MagU w m r) : BigR w (.agg [Value.bool false, m].toArray) (r : Int) := ⟨m, by rw [decide_eq_false (show ¬ (r : Int) < 0 by omega)], by rw [Int.natAbs_natCast]; exact h.mag⟩
end Go.Proofs.YtaamkfajnpobfaaGreat

namespace Go.Proofs.YtaamkfajnpobfaaGreat
open Go.RowKit

def prR (u d k : Nat) : List Nat := (prB u d k).reverse
theorem refPrint_any (n : Int) (d : Nat) (w : World) (hn : I64 n) (hd : d ≤ 9) :
  Calls Tryz.prog 117 #[.int .i64 n, .int .i64 (d : Int)] w fun e w' => (∃ N, Rounds n.natAbs d N ∧ N ≤ 20 ∧ e = .returned (.string (strOf (printed n d N)))) ∧ Grow w w' := by
 have bel := Below.refl w.heap.size w
 have hu : n.natAbs ≤ 9223372036854775808 := by have := hn.1; have := hn.2; omega
 have hn1 := hn.1
 have hn2 := hn.2
 refine Zs 47 Tryz.func117 ?_
 refine Zsr ?_
 refine Za ?_
 refine Zk3 0 1 4 (Ztq ?_)
 refine Zm ?_
 refine Zv (Runs.convI rfl rfl Tryz.underlying2 Tryz.underlying162 rfl) ?_
 refine Za ?_
 refine Zk4 0 1 4 5 (Zt ?_)
 refine Cd.seqJ (σ := Unit) (fun _ => [(0, .int .i64 n), (1, .int .i64 (d : Int)), (5, .int .u64 (n.natAbs : Int))]) (fun _ wr => Below w.heap.size w wr) ?_ ?_
 ·skip
  refine Zsr ?_
  refine Zm ?_
  refine Zv (Runs.lss rfl rfl rfl) ?_
  refine Zk5 0 1 4 5 11 (Zt ?_)
  refine Cd.condD rfl (fun hc => ?_) (fun hc => ?_)
  ·skip
   refine Zr ?_
   refine Zm ?_
   refine Zv (Runs.neg rfl rfl (r := (n.natAbs : Int)) (by rw [wrap_u64, wrap_u64]; omega)) ?_
   refine Za ?_
   refine Zk5 0 1 4 5 11 ?_
   exact Post.join () ⟨rfl, rfl, rfl, trivial⟩ bel
  ·skip
   refine Cd.skip ?_
   refine Post.join () ⟨rfl, rfl, ?_, trivial⟩ bel
   refine congrArg (fun z => some (Value.int .u64 z)) ?_
   rw [wrap_u64]; omega
 clear bel
 rintro ⟨⟩ wr bel
 refine Zsr ?_
 refine Za ?_
 refine Zk4 0 1 5 6 (Zts (Zsr ?_))
 refine Za ?_
 refine Zk5 0 1 5 6 7 (Zt (Cd.block ?_))
 generalize hun : n.natAbs = u at *
 refine Cd.loop (σ := Nat) (fun k => [(0, .int .i64 n), (1, .int .i64 (d : Int)), (5, .int .u64 ((u / 10 ^ k : Nat) : Int)), (6, .string (strOf (prR u d k))), (7, .int .i64 (k : Int))])
  (fun k wr => k ≤ 20 ∧ Below w.heap.size w wr ∧ ∀ j, j < k → 0 < u / 10 ^ j ∨ j ≤ d) (fun k => 20 - k) 0 ⟨by omega, bel, fun j hj => absurd hj (by simp)⟩ ⟨rfl, rfl, congrArg (fun x : Nat => some (Value.int .u64 (x : Int))) (show u = u / 10 ^ 0 by simp), rfl, rfl, trivial⟩ ?_
 clear bel
 rintro k wr ⟨hk, bel, hgo⟩
 refine Cd.seq (Zsr ?_)
 refine Zm ?_
 refine Zm ?_
 refine Zv (Runs.leq rfl rfl rfl) ?_
 refine Zm ?_
 refine SeqC.start ?_
 refine Zco (fun hcx => Runs.move rfl rfl) ?_
 refine SeqC.next rfl rfl rfl rfl rfl rfl rfl (fun hcx => Runs.gtr rfl rfl rfl) ?_
 refine SeqC.or rfl rfl rfl rfl rfl rfl rfl ?_
 refine Zk6 0 1 5 6 7 20 (Zt ?_)
 have hlen := prB_len u d k
 have hdk : u / 10 ^ k ≤ u := Nat.div_le_self _ _
 have hdt := div_ten u k
 have hpr : prB u d (k + 1) = prB u d k ++ (if k = d ∧ 0 < d then [46] else []) ++ [48 + u / 10 ^ k % 10] := rfl
 generalize hq : u / 10 ^ k = q at *
 refine Cd.cond rfl (fun hc => ?_) (fun hc => ?_)
 ·have hgo1 : 0 < q ∨ k ≤ d := by simp at hc; omega
  have hk20 : k < 20 := by
   rcases Nat.lt_or_ge k 20 with h | h
   ·exact h
   ·obtain rfl : k = 20 := by omega
    have : u / 10 ^ 20 = 0 := Nat.div_eq_of_lt (by omega)
    omega
  have hgo2 : ∀ j, j < k + 1 → 0 < u / 10 ^ j ∨ j ≤ d := fun j hj => by
   rcases Nat.lt_or_ge j k with h | h
   ·exact hgo j h
   ·obtain rfl : j = k := by omega
    rw [hq]; exact hgo1
  refine Cd.skip (Zts (Cd.block ?_))
  refine Cd.seqJ (σ := Unit) (fun _ => [(0, .int .i64 n), (1, .int .i64 (d : Int)), (5, .int .u64 (q : Int)), (6, .string (strOf ((prB u d k ++ if k = d ∧ 0 < d then [46] else []).reverse))), (7, .int .i64 (k : Int))]) (fun _ wr => Below w.heap.size w wr) ?_ ?_
  ·skip
   refine Zsr ?_
   refine Zm ?_
   refine Zm ?_
   refine Zv (Runs.eqlI rfl rfl rfl) ?_
   refine Zm ?_
   refine SeqC.start ?_
   refine Zco (fun hcx => Runs.move rfl rfl) ?_
   refine SeqC.next rfl rfl rfl rfl rfl rfl rfl (fun hcx => Runs.gtr rfl rfl rfl) ?_
   refine SeqC.and rfl rfl rfl rfl rfl rfl rfl ?_
   refine Zk7 0 1 5 6 7 20 29 (Zt ?_)
   refine Cd.cond rfl (fun hp => ?_) (fun hp => ?_)
   ·rw [if_pos (by simp at hp; omega)]
    have hl1 : [46].length + (prR u d k).length ≤ 9223372036854775807 := by unfold prR; rw [List.length_reverse]; simp; omega
    refine Zr ?_
    refine Zm ?_
    refine Zv (Runs.addL (a := [46]) (b := prR u d k) rfl rfl rfl hl1) ?_
    refine Za ?_
    refine Zk7 0 1 5 6 7 20 29 ?_
    exact Post.join () ⟨rfl, rfl, rfl, by rw [List.reverse_append]; rfl, rfl, trivial⟩ bel
   ·rw [if_neg (by simp at hp; omega)]
    refine Cd.skip ?_
    exact Post.join () ⟨rfl, rfl, rfl, by rw [List.append_nil]; rfl, rfl, trivial⟩ bel
  clear bel hc
  rintro ⟨⟩ wr bel
  have hl2 : (prB u d k ++ if k = d ∧ 0 < d then [46] else []).length ≤ 2 * k + 1 := by rw [List.length_append]; split <;> simp <;> omega
  generalize prB u d k ++ (if k = d ∧ 0 < d then [46] else []) = pre at *
  have hl3 : [48 + q % 10].length + pre.reverse.length ≤ 9223372036854775807 := by rw [List.length_reverse]; simp; omega
  have hpr2 : prR u d (k + 1) = [48 + q % 10] ++ pre.reverse := by unfold prR; rw [hpr, List.reverse_append]; rfl
  refine Zsr ?_
  refine Zm ?_
  refine Zv (Runs.remL 10 rfl rfl rfl rfl (by omega)) ?_
  refine Zv (Runs.addU rfl rfl rfl (by omega) (by omega)) ?_
  refine Zv (Runs.convI rfl rfl Tryz.underlying162 Tryz.underlying5 (wrapB (by omega) (by omega))) ?_
  refine Seq.slice (vs := [_]) (s := 1) rfl rfl rfl Tryz.underlying125 (by kernel_rfl) (zero_uint8) (by omega) (by omega) ⟨rfl, trivial⟩ rfl rfl rfl ?_
  intro g36 w1 n36
  have e36 := Nat.le_trans bel.size n36.ge
  replace bel := bel.step n36.below
  have k36 := n36.blk
  have hrd := Reads.blk (size := 1) k36 1 rfl
  refine Zv (Runs.convBS (l := [48 + q % 10]) rfl rfl Tryz.underlying125 Tryz.underlying5 Tryz.underlying9 hrd (fun x hx => by simp at hx; omega)) ?_
  refine Zm ?_
  refine Zv (Runs.addL (a := [48 + q % 10]) (b := pre.reverse) rfl rfl rfl hl3) ?_
  refine Za ?_
  refine Zk5 0 1 5 6 7 (Ztr ?_)
  refine Zm ?_
  refine Zv (Runs.quoLU 10 rfl rfl rfl rfl (by omega) (by omega)) ?_
  refine Za ?_
  refine Zk5 0 1 5 6 7 (Post.block_normal (Ztr ?_))
  refine Zm ?_
  refine Za_ ?_
  refine Za ?_
  refine Zk5 0 1 5 6 7 ?_
  refine Post.round (k + 1) ⟨rfl, rfl, congrArg (fun x : Nat => some (Value.int .u64 (x : Int))) hdt, ?_, rfl, trivial⟩ ⟨by omega, bel, hgo2⟩ (by omega)
  rw [hpr2]; rfl
 ·have hstop : Rounds u d k := ⟨hgo, by rw [hq]; simp at hc; omega⟩
  have hl1 : [45].length + (prR u d k).length ≤ 9223372036854775807 := by unfold prR; rw [List.length_reverse]; simp; omega
  refine Cd.exit (Post.then_exit (Post.round_exit (Post.block_exit (Zts (Zsr ?_)))))
  refine Zm ?_
  refine Zv (Runs.lss rfl rfl rfl) ?_
  refine Zk7 0 1 5 6 7 20 43 (Zt ?_)
  refine Cd.condD rfl (fun hp => ?_) (fun hp => ?_)
  ·have hprd : printed n d k = [45] ++ prR u d k := by unfold printed prR; rw [hun, if_pos hp, List.reverse_append]; rfl
   refine Zsr ?_
   refine Zm ?_
   refine Zv (Runs.addL (a := [45]) (b := prR u d k) rfl rfl rfl hl1) ?_
   refine Za ?_
   refine Zk8 0 1 4 5 6 7 20 43 (Zt (Cd.ret (Post.then_ret ?_)))
   refine Post.end1 rfl rfl (.inl rfl) ?_
   exact ⟨⟨k, hstop, by omega, by rw [hprd]⟩, bel⟩
  ·have hprd : printed n d k = prR u d k := by unfold printed prR; rw [hun, if_neg hp, List.append_nil]
   refine Cd.skip (Ztq ?_)
   refine Zm ?_
   refine Za ?_
   refine Zk8 0 1 4 5 6 7 20 43 (Zt (Cd.ret ?_))
   refine Post.end1 rfl rfl (.inl rfl) ?_
   exact ⟨⟨k, hstop, by omega, by rw [hprd]⟩, bel⟩
end Go.Proofs.YtaamkfajnpobfaaGreat

namespace Go.Proofs.YtaamkfajnpobfaaGreat
open Go.RowKit

theorem rounds_uniq {u d N M : Nat} (h : Rounds u d N) (k : Rounds u d M) : N = M := by
 rcases Nat.lt_trichotomy N M with h1 | h1 | h1
 ·exact absurd (k.1 N h1) h.2
 ·exact h1
 ·exact absurd (h.1 M h1) k.2
theorem rounds_least (u d : Nat) : ∀ n, ¬ (0 < u / 10 ^ n ∨ n ≤ d) → ∃ N, N ≤ n ∧ Rounds u d N := by
 intro n
 induction n using Nat.strongRecOn with
 | _ n ih =>
  intro hn
  by_cases h : ∀ j, j < n → 0 < u / 10 ^ j ∨ j ≤ d
  ·exact ⟨n, Nat.le_refl _, h, hn⟩
  ·have : ∃ j, j < n ∧ ¬ (0 < u / 10 ^ j ∨ j ≤ d) := by
    apply Classical.byContradiction
    intro h2
    exact h fun j hj => Classical.byContradiction fun h3 => h2 ⟨j, hj, h3⟩
   obtain ⟨j, hj, hp⟩ := this
   obtain ⟨N, h1, h2⟩ := ih j hj hp
   exact ⟨N, by omega, h2⟩
theorem rounds_ex (u d : Nat) (hu : u ≤ 9223372036854775808) (hd : d ≤ 9) : ∃ N, N ≤ 19 ∧ Rounds u d N :=
 rounds_least u d 19 (by rintro (h | h)
                         ·have : u / 10 ^ 19 = 0 := Nat.div_eq_of_lt (by omega)
                          omega
                         ·omega)
theorem refPrint_N (n : Int) (d N : Nat) (w : World) (hn : I64 n) (hd : d ≤ 9) (hN : Rounds n.natAbs d N) :
  Calls Tryz.prog 117 #[.int .i64 n, .int .i64 (d : Int)] w fun e w' => e = .returned (.string (strOf (printed n d N))) ∧ Grow w w' :=
 (refPrint_any n d w hn hd).mono fun e w' ⟨⟨M, hM, _, he⟩, hb⟩ => ⟨by rw [he, rounds_uniq hM hN], hb⟩
theorem printed_lt (n : Int) (d N : Nat) : ∀ x ∈ printed n d N, x < 256 := by
 intro x hx
 unfold printed at hx
 rw [List.mem_reverse] at hx
 rcases List.mem_append.1 hx with hx | hx
 ·exact prB_lt _ _ _ x hx
 ·split at hx
  ·simp at hx; omega
  ·simp at hx
theorem form_len {l : List Nat} {d : Nat} {y : Int} {F B : List Nat} (h : Form l d y F B) (hy : I64 y) (hd : d ≤ 9) : l.length ≤ 30 := by
 obtain ⟨N, hN, -, hN2⟩ := printed_of_form h
 unfold I64 at hy
 obtain ⟨M, hM, hM2⟩ := rounds_ex y.natAbs d (by omega) hd
 have := rounds_uniq hN hM2
 have hb := h.len
 rw [h.eq]
 unfold FormL
 rw [List.length_append, List.length_append]
 have h1 : (if y < 0 then [45] else [] : List Nat).length ≤ 1 := by split <;> simp
 have h2 : (if 0 < d then 46 :: B else [] : List Nat).length ≤ 1 + d := by split <;> simp; omega
 omega
theorem valS_big (l : List Nat) (k : Nat) (hl : l.length ≤ 30) (hk : k ≤ l.length) : valS (l.take k) < 1000000000000000000000000000000 := by
 have h1 := valS_lt l k
 have h2 : 10 ^ k ≤ 10 ^ 30 := Nat.pow_le_pow_right (by omega) (by omega)
 omega
theorem head_at (l : List Nat) : (l.head? = some 45) ↔ (0 < l.length ∧ l.getD 0 0 = 45) := by
 cases l with
 | nil => simp
 | cons c l => simp

set_option maxHeartbeats 1000000 in
theorem refAmount_any (l : List Nat) (d : Int) (w : World) (hl : ∀ x ∈ l, x < 256) (hd : I64 d) :
  Calls Tryz.prog 62 #[.string (strOf l), .int .i64 d] w fun e w' => ∃ x b, e = .returned (.tuple #[.int .i64 x, .bool b]) ∧ AmtA l d x b ∧ Grow w w' := by
 have bel := Below.refl w.heap.size w
 refine Zs 73 Tryz.func62 ?_
 refine Zsr ?_
 refine Za ?_
 refine Za ?_
 refine Zk4 0 1 4 5 (Zts (Zsr ?_))
 refine Zm ?_
 refine Zv (Runs.lss rfl rfl rfl) ?_
 refine Zm ?_
 refine SeqC.start ?_
 refine Zco (fun hcx => Runs.move rfl rfl) ?_
 refine SeqC.next rfl rfl rfl rfl rfl rfl rfl (fun hcx => Runs.gtr rfl rfl rfl) ?_
 refine SeqC.or rfl rfl rfl rfl rfl rfl rfl ?_
 refine Zm ?_
 refine SeqC.start ?_
 refine Zco (fun hcx => Runs.move rfl rfl) ?_
 refine SeqC.next rfl rfl rfl rfl rfl rfl rfl (fun hcx => Runs.lenL rfl rfl Tryz.underlying9) ?_
 refine SeqC.next rfl rfl rfl rfl rfl rfl rfl (fun hcx => Runs.gtr rfl rfl rfl) ?_
 refine SeqC.or rfl rfl rfl rfl rfl rfl rfl ?_
 refine Zk5 0 1 4 5 20 (Zt ?_)
 refine Cd.cond rfl (fun h => ?_) (fun h => ?_)
 ·skip
  refine Zsr ?_
  refine Za ?_
  refine Za ?_
  refine Zk5 0 1 4 5 20 (Zt (Cd.ret (Post.then_ret ?_)))
  refine Post.end2 rfl rfl rfl (.inl rfl) ?_
  refine ⟨0, false, rfl, ⟨fun h => (by cases h), fun _ => ⟨rfl, fun h1 h2 y hy F B hf => ?_⟩⟩, bel⟩
  have := form_len hf hy (by omega)
  simp at h
  omega
 obtain ⟨D, rfl⟩ : ∃ D : Nat, d = (D : Int) := ⟨d.toNat, by simp at h; omega⟩
 have hD : D ≤ 9 := by simp at h; omega
 have hlen : l.length ≤ 30 := by simp at h; omega
 clear h
 have hno : (∀ y, I64 y → ∀ F B, ¬ Form l D y F B) → AmtA l (D : Int) 0 false := fun h => ⟨fun h => (by cases h), fun _ => ⟨rfl, fun _ _ => by rw [Int.toNat_natCast]; exact h⟩⟩
 refine Cd.skip (Ztq ?_)
 refine Zv (Runs.build rfl rfl (run_build_Big0 _)) ?_
 refine Zl zero_debentureref01_Big ?_
 intro g6 w1 n6
 have e6 := Nat.le_trans bel.size n6.ge
 replace bel := bel.step n6.below
 have k6 := n6.blk
 refine Zo 2 k6 ?_
 intro w2 pw2
 replace bel := bel.put k6 pw2 e6
 replace k6 := pw2.blk
 refine Zk6 0 1 4 5 6 20 (Zts (Zsr ?_))
 refine Za ?_
 refine Zk7 0 1 4 5 6 7 20 (Zt (Cd.block ?_))
 have hm0 : MagU w2 (.slice none 0 0) 0 := ⟨MagR.zero _⟩
 refine Cd.loop (σ := Nat × Value) (fun s => [(0, .string (strOf l)), (1, .int .i64 (D : Int)), (6, .pointer (some ⟨g6, 0, none⟩)), (7, .int .i64 (s.1 : Int))])
  (fun s wr => s.1 ≤ l.length ∧ Below w.heap.size w wr ∧ MagU wr s.2 (valS (l.take s.1)) ∧ Blk wr g6 154 #[.bool false, s.2]) (fun s => l.length - s.1) (0, .slice none 0 0) ⟨Nat.zero_le _, bel, by simpa [valS] using hm0, k6⟩ ⟨rfl, rfl, rfl, rfl, trivial⟩ ?_
 clear bel k6
 rintro ⟨k, m⟩ wr ⟨hk, bel, hm, k6⟩
 dsimp only at hk hm k6 ⊢
 have hbig := valS_big l k hlen hk
 refine Cd.seq (Zsr ?_)
 refine Zm ?_
 refine Zm ?_
 refine Zv (Runs.lenL rfl rfl Tryz.underlying9) ?_
 refine Zv (Runs.lss rfl rfl rfl) ?_
 refine Zk5 0 1 6 7 25 (Zt ?_)
 refine Cd.condD rfl (fun hc => ?_) (fun hc => ?_)
 ·obtain ⟨c, hc⟩ : ∃ c, l[k]? = some c := ⟨_, List.getElem?_eq_getElem (show k < l.length by omega)⟩
  have hc256 := hl c (List.mem_of_getElem? hc)
  have htk : l.take (k + 1) = l.take k ++ [c] := by rw [List.take_add_one, hc]; rfl
  have hvs : valS (l.take (k + 1)) = if 48 ≤ c ∧ c ≤ 57 then 10 * valS (l.take k) + (c - 48) else valS (l.take k) := by rw [htk, valS_snoc]
  generalize hV : valS (l.take k) = V at *
  refine Cd.skip (Zts (Cd.block (Zsr ?_)))
  refine Zm ?_
  refine Zm ?_
  refine Zv (Runs.indexL (l := l) (j := k) rfl rfl rfl Tryz.underlying9 rfl hc hc256) ?_
  refine Zv (Runs.geq rfl rfl rfl) ?_
  refine Zm ?_
  refine SeqC.start ?_
  refine Zco (fun hcx => Runs.move rfl rfl) ?_
  refine SeqC.next rfl rfl rfl rfl rfl rfl rfl (fun hcx => Runs.move rfl rfl) ?_
  refine SeqC.next rfl rfl rfl rfl rfl rfl rfl (fun hcx => Runs.indexL (l := l) (j := k) rfl rfl rfl Tryz.underlying9 rfl hc hc256) ?_
  refine SeqC.next rfl rfl rfl rfl rfl rfl rfl (fun hcx => Runs.leq rfl rfl rfl) ?_
  refine SeqC.and rfl rfl rfl rfl rfl rfl rfl ?_
  refine Zk6 0 1 6 7 25 37 (Zt ?_)
  refine Cd.cond rfl (fun h => ?_) (fun h => ?_)
  ·have hcd : 48 ≤ c ∧ c ≤ 57 := by simp at h; omega
   rw [if_pos hcd] at hvs
   clear h
   refine Cd.draw 10 (by kernel_rfl) [] (.inl rfl) rfl Grow Grow.refl (fun _ _ _ => Grow.trans) ?_
   intro w3 hw3 zw3
   replace bel := bel.step hw3
   replace k6 := k6.step hw3
   replace hm := hm.step hw3
   have zbel := bel.size
   have zlt := k6.lt
   refine Zd (fun w hG => Runs.loadW rfl rfl Tryz.underlying154 rfl (k6.step hG) (m := 2) (by kernel_rfl) rfl) ?_
   refine Dr.call (Φ := fun u w => BigR w u 10) rfl (fun w => Ze Tryz.func114) rfl (BigR.stable _) (fun w hG => of_big 10 _ (by omega) (by omega)) ?_
   refine Dr.call1 (j := 1) (Φ := fun u w => BigR w u ((V : Int) * 10)) rfl rfl rfl (fun u w => Ze Tryz.func113) rfl (BigR.stable _) (fun u w hG hu => times_grow _ u (V : Int) 10 _ (hm.step hG).big hu (big_of (by omega)) (big_of (by omega))) ?_
   refine Zdm ?_
   refine Zdm ?_
   refine Zd (fun w hG => Runs.indexL (l := l) (j := k) rfl rfl rfl Tryz.underlying9 rfl hc hc256) ?_
   refine Zd (fun w hG => Runs.subW rfl rfl rfl (wrapB (by omega) (by omega))) ?_
   refine Zd (fun w hG => Runs.convI rfl rfl Tryz.underlying5 Tryz.underlying2 (wrapI (by omega) (by omega))) ?_
   refine Dr.call (Φ := fun u w => BigR w u ((c : Int) - 48)) rfl (fun w => Ze Tryz.func114) rfl (BigR.stable _) (fun w hG => of_big ((c : Int) - 48) _ (by omega) (by omega)) ?_
   refine Dr.call2 (j := 2) (j' := 8) (Φ := fun u w => BigR w u ((V : Int) * 10 + ((c : Int) - 48))) rfl rfl rfl rfl rfl (fun u u' w => Ze Tryz.func112) rfl (BigR.stable _) (fun u u' w hG hu hu' => plus_big _ _ ((V : Int) * 10) ((c : Int) - 48) _ hu hu' (big_of (by omega)) (big_of (by omega))) ?_
   refine Dr.nil ?_
   refine FinX.open (j := 9) rfl ?_
   intro u9
   refine FinX.done (F' := [(0, _), (1, _), (6, _), (7, _), (25, _), (37, _), (47, _)]) rfl ⟨rfl, rfl, rfl, rfl, rfl, rfl, rfl, trivial⟩ ?_
   intro w4 hw4 fw4
   replace bel := bel.step hw4
   replace k6 := k6.step hw4
   replace hm := hm.step hw4
   obtain ⟨-, h9⟩ := (by assumption : True ∧ BigR _ _ ((V : Int) * 10 + ((c : Int) - 48)))
   rw [show ((V : Int) * 10 + ((c : Int) - 48)) = ((valS (l.take (k + 1)) : Nat) : Int) by omega] at h9
   obtain ⟨mr, e9, omr, hmr⟩ := h9.agg
   rw [decide_eq_false (show ¬ ((valS (l.take (k + 1)) : Nat) : Int) < 0 by omega)] at e9
   subst e9
   rw [Int.natAbs_natCast] at hmr
   have hmr : MagU _ mr (valS (l.take (k + 1))) := ⟨hmr⟩
   have hni := hm.mag.ni
   refine Zo 2 k6 ?_
   intro w5 pw5
   replace bel := bel.put k6 pw5 e6
   replace hmr := hmr.put k6 pw5 e6
   replace k6 := pw5.blk
   refine Zk6 0 1 6 7 25 37 (Post.block_normal (Ztr ?_))
   refine Zm ?_
   refine Za_ ?_
   refine Za ?_
   refine Zk6 0 1 6 7 25 37 ?_
   exact Post.round (k + 1, mr) ⟨rfl, rfl, rfl, rfl, trivial⟩ ⟨by dsimp only; omega, bel, hmr, k6⟩ (by dsimp only; omega)
  ·rw [if_neg (by simp at h; omega)] at hvs
   refine Cd.skip (Post.block_normal (Ztr ?_))
   refine Zm ?_
   refine Za_ ?_
   refine Za ?_
   refine Zk6 0 1 6 7 25 37 ?_
   exact Post.round (k + 1, m) ⟨rfl, rfl, rfl, rfl, trivial⟩ ⟨by dsimp only; omega, bel, by dsimp only; rw [hvs]; exact hm, k6⟩ (by dsimp only; omega)
 ·obtain rfl : k = l.length := by omega
  rw [List.take_of_length_le (Nat.le_refl _)] at hm hbig
  have hni := hm.mag.ni
  have hsz : (signZ l).natAbs = valS l := by unfold signZ; split <;> omega
  have hh := head_at l
  have hl0 : 0 < l.length → l[0]? = some (l.getD 0 0) := by
   intro h
   cases l with
   | nil => simp at h
   | cons c l => rfl
  have hl1 : l.getD 0 0 < 256 := by
   cases l with
   | nil => simp
   | cons c l => exact hl c (by simp)
  generalize l.getD 0 0 = c0 at *
  refine Cd.exit (Post.then_exit (Post.round_exit (Post.block_exit (Zt ?_))))
  refine Cd.seqJ (σ := Value) (fun _ => [(0, .string (strOf l)), (1, .int .i64 (D : Int)), (6, .pointer (some ⟨g6, 0, none⟩))]) (fun m' wr => Below w.heap.size w wr ∧ MagU wr m' (signZ l).natAbs ∧ Blk wr g6 154 #[.bool (decide (signZ l < 0)), m']) ?_ ?_
  ·skip
   refine Zsr ?_
   refine Zm ?_
   refine Zv (Runs.lenL rfl rfl Tryz.underlying9) ?_
   refine Zv (Runs.gtr rfl rfl rfl) ?_
   refine Zm ?_
   refine SeqC.start ?_
   refine Zco (fun hcx => Runs.move rfl rfl) ?_
   refine SeqC.next rfl rfl rfl rfl rfl rfl rfl (fun hcx => Runs.indexL (l := l) (j := 0) (c := c0) rfl rfl rfl Tryz.underlying9 rfl (hl0 (by simp at hcx; omega)) hl1) ?_
   refine SeqC.next rfl rfl rfl rfl rfl rfl rfl (fun hcx => Runs.eqlI rfl rfl rfl) ?_
   refine SeqC.and rfl rfl rfl rfl rfl rfl rfl ?_
   refine Zk6 0 1 6 7 25 55 (Zt ?_)
   refine Cd.cond rfl (fun h => ?_) (fun h => ?_)
   ·have hs : signZ l = -(valS l : Int) := by unfold signZ; rw [if_pos (hh.2 (by simp at h; exact ⟨by omega, by omega⟩))]
    refine Zr ?_
    refine Zv (Runs.loadW rfl rfl Tryz.underlying154 rfl k6 (m := 2) (by kernel_rfl) rfl) ?_
    refine Zc (Ze Tryz.func115) (minus_big _ (valS l : Int) _ hm.big (big_of (by omega))) ?_
    rintro e w7 ⟨v7, rfl, hb7, hv7⟩
    refine ⟨_, rfl, ?_⟩
    rw [← hs] at hv7
    obtain ⟨mr, rfl, omr, hmr⟩ := hv7.agg
    have hmr : MagU _ mr (signZ l).natAbs := ⟨hmr⟩
    replace bel := bel.step hb7
    replace k6 := k6.step hb7
    replace hm := hm.step hb7
    refine Zo 2 k6 ?_
    intro w3 pw3
    replace bel := bel.put k6 pw3 e6
    replace hmr := hmr.put k6 pw3 e6
    replace k6 := pw3.blk
    refine Zk6 0 1 6 7 25 55 ?_
    exact Post.join mr ⟨rfl, rfl, rfl, trivial⟩ ⟨bel, hmr, k6⟩
   ·have hs : signZ l = (valS l : Int) := by
     unfold signZ
     rw [if_neg]
     intro h2
     have := hh.1 h2
     simp at h
     omega
    have hdf : decide (signZ l < 0) = false := decide_eq_false (by omega)
    refine Cd.skip ?_
    exact Post.join m ⟨rfl, rfl, rfl, trivial⟩ ⟨bel, by rw [hsz]; exact hm, by rw [hdf]; exact k6⟩
  clear bel k6 hm
  rintro m' wr' ⟨bel, hm, k6⟩
  have hzb : (signZ l).natAbs < big := by rw [hsz]; exact big_of (by omega)
  have hsbd := smallOf_bd (signZ l)
  refine Zsr ?_
  refine Zv (Runs.loadW rfl rfl Tryz.underlying154 rfl k6 (m := 2) (by kernel_rfl) rfl) ?_
  refine Zc (Ze Tryz.func116) (small_big' _ (signZ l) _ ⟨_, rfl, hm.mag⟩ hzb) ?_
  rintro e w8 ⟨rfl, hb8⟩
  refine ⟨_, rfl, ?_⟩
  replace bel := bel.step hb8
  replace k6 := k6.step hb8
  replace hm := hm.step hb8
  obtain ⟨N, hN19, hN⟩ := rounds_ex (smallOf (signZ l)).natAbs D (by omega) hD
  refine Zm ?_
  refine Zv (Runs.extract rfl rfl rfl) ?_
  refine Zv (Runs.extract rfl rfl rfl) ?_
  refine Za ?_
  refine Za ?_
  refine Zk5 0 1 6 8 9 (Zts (Zsr ?_))
  refine Zm ?_
  refine Zv (Runs.not rfl rfl) ?_
  refine Zm ?_
  refine SeqC.start ?_
  refine Zco (fun hcx => Runs.move rfl rfl) ?_
  refine SeqC.next rfl rfl rfl rfl rfl rfl rfl (fun hcx => Runs.move rfl rfl) ?_
  refine SeqC.nextC rfl rfl rfl rfl rfl rfl rfl (fun hcx => Ze Tryz.func117) (fun hcx => refPrint_N (smallOf (signZ l)) D N _ ⟨hsbd.1, hsbd.2⟩ hD hN) ?_
  intro w3 hw3
  replace bel := bel.step hw3
  replace k6 := k6.step hw3
  replace hm := hm.step hw3
  refine SeqC.next rfl rfl rfl rfl rfl rfl rfl (fun hcx => Runs.move rfl rfl) ?_
  refine SeqC.next rfl rfl rfl rfl rfl rfl rfl (fun hcx => Runs.neqL (a := printed (smallOf (signZ l)) D N) (b := l) rfl rfl rfl (printed_lt _ _ _) hl) ?_
  refine SeqC.or rfl rfl rfl rfl rfl rfl rfl ?_
  refine Zk6 0 1 6 8 9 71 (Zt ?_)
  refine Cd.cond rfl (fun h => ?_) (fun h => ?_)
  ·have hnf : ∀ y, I64 y → ∀ F B, ¬ Form l D y F B := by
    intro y hy F B hf
    have h1 := signZ_form hf
    have h2 : fits (signZ l) = true := by rw [h1]; exact fits_of hy.1 hy.2
    have h3 : smallOf (signZ l) = y := by unfold smallOf; rw [h2, if_pos rfl, h1]
    obtain ⟨M, hM, hM2, -⟩ := printed_of_form hf
    rw [h3] at hN h
    rw [h2, ← rounds_uniq hM hN, ← hM2] at h
    simp at h
   refine Zsr ?_
   refine Za ?_
   refine Za ?_
   refine Zk8 0 1 4 5 6 8 9 71 (Zt (Cd.ret (Post.then_ret ?_)))
   refine Post.end2 rfl rfl rfl (.inl rfl) ?_
   exact ⟨0, false, rfl, hno hnf, bel⟩
  ·have hy2 : fits (signZ l) = true ∧ printed (smallOf (signZ l)) D N = l := by
    cases hf : fits (signZ l) with
    | false => rw [hf] at h; simp at h
    | true => rw [hf] at h; simp at h; exact ⟨rfl, h⟩
   obtain ⟨F, B, hfm⟩ := form_of_printed (smallOf (signZ l)) D N hN
   rw [hy2.2] at hfm
   refine Cd.skip (Ztq ?_)
   refine Zm ?_
   refine Za ?_
   refine Za ?_
   refine Zk8 0 1 4 5 6 8 9 71 (Zt (Cd.ret ?_))
   refine Post.end2 rfl rfl rfl (.inl rfl) ?_
   exact ⟨_, true, rfl, ⟨fun _ => ⟨by omega, by omega, ⟨hsbd.1, hsbd.2⟩, F, B, by rw [Int.toNat_natCast]; exact hfm⟩, fun h => (by cases h)⟩, bel⟩
end Go.Proofs.YtaamkfajnpobfaaGreat

namespace Go.Proofs.YtaamkfajnpobfaaGreat
open Go.RowKit

theorem digits_any (v n : Nat) (w : World) (hv : v ≤ 100000) (hn : n ≤ 9) : Calls Tryz.prog 145 #[.int .i64 (v : Int), .int .i64 (n : Int)] w fun e w' => e = .returned (.string (strOf (digR v n))) ∧ Grow w w' := by
 have bel := Below.refl w.heap.size w
 refine Zs 23 Tryz.func145 ?_
 refine Zsr ?_
 refine Za ?_
 refine Zk3 0 1 4 (Ztq ?_)
 refine Za ?_
 refine Zk4 0 1 4 5 (Zts (Zsr ?_))
 refine Za ?_
 refine Zk5 0 1 4 5 6 (Zt (Cd.block ?_))
 refine Cd.loop (σ := Nat) (fun k => [(0, .int .i64 ((v / 10 ^ k : Nat) : Int)), (1, .int .i64 (n : Int)), (5, .string (strOf (digR v k))), (6, .int .i64 (k : Int))])
  (fun k wr => k ≤ n ∧ Below w.heap.size w wr) (fun k => n - k) 0 ⟨Nat.zero_le _, bel⟩ ⟨congrArg (fun x : Nat => some (Value.int .i64 (x : Int))) (show v = v / 10 ^ 0 by simp), rfl, rfl, rfl, trivial⟩ ?_
 clear bel
 rintro k wr ⟨hk, bel⟩
 have hdk : v / 10 ^ k ≤ v := Nat.div_le_self _ _
 have hdt : v / 10 ^ k / 10 = v / 10 ^ (k + 1) := by rw [Nat.div_div_eq_div_mul, Nat.pow_succ]
 have hdr : digR v (k + 1) = (48 + v / 10 ^ k % 10) :: digR v k := rfl
 have hlen := digR_len v k
 generalize hq : v / 10 ^ k = q at *
 refine Cd.seq (Zsr ?_)
 refine Zm ?_
 refine Zm ?_
 refine Zv (Runs.lss rfl rfl rfl) ?_
 refine Zk5 0 1 5 6 9 (Zt ?_)
 refine Cd.condD rfl (fun hc => ?_) (fun hc => ?_)
 ·have hl3 : [48 + q % 10].length + (digR v k).length ≤ 9223372036854775807 := by simp; omega
  have hqm : q % 10 < 10 := Nat.mod_lt _ (by omega)
  refine Cd.skip (Zts (Cd.block (Zsr ?_)))
  refine Zm ?_
  refine Zv (Runs.remN rfl rfl rfl (by omega) (by omega)) ?_
  refine Za_ ?_
  refine Zv (Runs.convI rfl rfl Tryz.underlying3 Tryz.underlying5 (wrapB (by omega) (by omega))) ?_
  refine Seq.slice (vs := [_]) (s := 1) rfl rfl rfl Tryz.underlying125 (by kernel_rfl) (zero_uint8) (by omega) (by omega) ⟨rfl, trivial⟩ rfl rfl rfl ?_
  intro g16 w1 n16
  have e16 := Nat.le_trans bel.size n16.ge
  replace bel := bel.step n16.below
  have k16 := n16.blk
  rw [show (48 + (q : Int) % 10) = ((48 + q % 10 : Nat) : Int) by omega] at k16
  have hrd := Reads.blk (size := 1) k16 1 rfl
  refine Zv (Runs.convBS (l := [48 + q % 10]) rfl rfl Tryz.underlying125 Tryz.underlying5 Tryz.underlying9 hrd (fun x hx => by simp at hx; omega)) ?_
  refine Zm ?_
  refine Zv (Runs.addL (a := [48 + q % 10]) (b := digR v k) rfl rfl rfl hl3) ?_
  refine Za ?_
  refine Zk5 0 1 5 6 9 (Ztr ?_)
  refine Zm ?_
  refine Zv (Runs.quoI rfl rfl rfl (by omega) (by omega) (by omega)) ?_
  refine Za ?_
  refine Zk5 0 1 5 6 9 (Post.block_normal (Ztr ?_))
  refine Zm ?_
  refine Za_ ?_
  refine Za ?_
  refine Zk5 0 1 5 6 9 ?_
  refine Post.round (k + 1) ⟨congrArg (fun x : Int => some (Value.int .i64 x)) (by rw [← hdt]; omega), rfl, by rw [hdr]; rfl, rfl, trivial⟩ ⟨by omega, bel⟩ (by omega)
 ·obtain rfl : k = n := by omega
  refine Cd.exit (Post.then_exit (Post.round_exit (Post.block_exit (Ztq ?_))))
  refine Zm ?_
  refine Za ?_
  refine Zk6 0 1 4 5 6 9 (Zt (Cd.ret ?_))
  refine Post.end1 rfl rfl (.inl rfl) ?_
  exact ⟨rfl, bel⟩
theorem refDayPrint_any (y m d : Int) (w : World) (hok : ofOk y m d = true) : Calls Tryz.prog 111 #[.int .i64 (ofZ y m d)] w fun e w' => e = .returned (.string (strOf (printD y.toNat m.toNat d.toNat))) ∧ Grow w w' := by
 have bel := Below.refl w.heap.size w
 obtain ⟨o1, o2, o3, o4, o5, o6⟩ := ofOk_bd hok
 have ey : y = (y.toNat : Int) := by omega
 have em : m = (m.toNat : Int) := by omega
 have ed : d = (d.toNat : Int) := by omega
 have hciv := fun W => refCivil_any y m d W hok
 have hy2 : y.toNat ≤ 9999 := by omega
 have hm2 : m.toNat ≤ 12 := by omega
 have hd2 : d.toNat ≤ 31 := by omega
 have hy1 : 1970 ≤ y.toNat := by omega
 generalize ofZ y m d = n at *
 refine Zs 24 Tryz.func111 ?_
 refine Zsr ?_
 refine Za ?_
 refine Zk2 0 2 (Ztq ?_)
 refine Zm ?_
 refine Zc (Ze Tryz.func144) (hciv _) ?_
 rintro e w8 ⟨rfl, hb8⟩
 refine ⟨_, rfl, ?_⟩
 replace bel := bel.step hb8
 rw [ey, em, ed]
 generalize y.toNat = Y at *
 generalize m.toNat = M at *
 generalize d.toNat = D at *
 simp only [Int.toNat_natCast]
 refine Zm ?_
 refine Zv (Runs.extract rfl rfl rfl) ?_
 refine Zv (Runs.extract rfl rfl rfl) ?_
 refine Zv (Runs.extract rfl rfl rfl) ?_
 refine Za ?_
 refine Za ?_
 refine Za ?_
 refine Zk5 0 2 3 4 5 (Zts (Zsr ?_))
 refine Zm ?_
 refine Zv (Runs.eqlI rfl rfl rfl) ?_
 refine Zk6 0 2 3 4 5 13 (Zt ?_)
 refine Cd.condF rfl (decide_eq_false (by omega)) ?_
 refine Cd.skip (Ztq ?_)
 refine Zm ?_
 refine Zc (Ze Tryz.func145) (digits_any Y 4 _ (by omega) (by omega)) ?_
 rintro e w9 ⟨rfl, hb9⟩
 refine ⟨_, rfl, ?_⟩
 replace bel := bel.step hb9
 refine Zv (Runs.addL (a := digR Y 4) (b := [45]) rfl rfl rfl (by rw [digR_len]; simp)) ?_
 refine Zm ?_
 refine Zc (Ze Tryz.func145) (digits_any M 2 _ (by omega) (by omega)) ?_
 rintro e w10 ⟨rfl, hb10⟩
 refine ⟨_, rfl, ?_⟩
 replace bel := bel.step hb10
 refine Zv (Runs.addL (a := digR Y 4 ++ [45]) (b := digR M 2) rfl rfl rfl (by rw [List.length_append, digR_len, digR_len]; simp)) ?_
 refine Zv (Runs.addL (a := digR Y 4 ++ [45] ++ digR M 2) (b := [45]) rfl rfl rfl (by rw [List.length_append, List.length_append, digR_len, digR_len]; simp)) ?_
 refine Zm ?_
 refine Zc (Ze Tryz.func145) (digits_any D 2 _ (by omega) (by omega)) ?_
 rintro e w11 ⟨rfl, hb11⟩
 refine ⟨_, rfl, ?_⟩
 replace bel := bel.step hb11
 refine Zv (Runs.addL (a := digR Y 4 ++ [45] ++ digR M 2 ++ [45]) (b := digR D 2) rfl rfl rfl (by rw [List.length_append, List.length_append, List.length_append, digR_len, digR_len, digR_len]; simp)) ?_
 refine Za ?_
 refine Zk6 0 2 3 4 5 13 (Zt (Cd.ret ?_))
 refine Post.end1 rfl rfl (.inl rfl) ?_
 exact ⟨rfl, bel⟩
theorem printD_lt (y m d : Nat) : ∀ x ∈ printD y m d, x < 256 := by
 intro x hx
 unfold printD at hx
 simp only [List.mem_append] at hx
 rcases hx with (((h | h) | h) | h) | h
 ·exact digR_lt _ _ x h
 ·simp at h; omega
 ·exact digR_lt _ _ x h
 ·simp at h; omega
 ·exact digR_lt _ _ x h

def idxD (k : Nat) : Nat := if 7 < k then 2 else if 4 < k then 1 else 0
def rawS (l : List Nat) : Nat → List Int
 | 0 => [0, 0, 0]
 | k + 1 => if k = 4 ∨ k = 7 then rawS l k else (rawS l k).set (idxD k) (10 * (rawS l k).getD (idxD k) 0 + (l.getD k 0 : Int) - 48)
theorem rawS_len (l : List Nat) (k : Nat) : (rawS l k).length = 3 := by
 induction k with
 | zero => rfl
 | succ k ih => unfold rawS; split; exact ih; simp [ih]
theorem rawS_bd (l : List Nat) (hl : ∀ x ∈ l, x < 256) : ∀ k, ∀ x ∈ rawS l k, 250 - (10 ^ k * 250 : Int) ≤ x ∧ x ≤ 10 ^ k * 250 - 250 := by
 intro k
 induction k with
 | zero => intro x hx; simp [rawS] at hx; subst hx; decide
 | succ k ih =>
  have hp : (10 : Int) ^ (k + 1) = 10 * 10 ^ k := by rw [Int.pow_succ]; omega
  have hp0 : (1 : Int) ≤ 10 ^ k := by
   have : 0 < (10 : Nat) ^ k := Nat.pow_pos (by omega)
   have : ((10 ^ k : Nat) : Int) = (10 : Int) ^ k := by simp
   omega
  rw [hp]
  intro x hx
  unfold rawS at hx
  split at hx
  ·have := ih x hx; omega
  ·rcases List.mem_or_eq_of_mem_set hx with h | h
   ·have := ih x h; omega
   ·have h1 : (rawS l k).getD (idxD k) 0 ∈ rawS l k := by
     have hi : idxD k < (rawS l k).length := by rw [rawS_len]; unfold idxD; split; omega; split <;> omega
     rw [List.getD_eq_getElem?_getD, List.getElem?_eq_getElem hi]
     exact List.getElem_mem hi
    have h2 := ih _ h1
    have h3 : l.getD k 0 < 256 := by
     rcases Nat.lt_or_ge k l.length with h | h
     ·rw [List.getD_eq_getElem?_getD, List.getElem?_eq_getElem h]; exact hl _ (List.getElem_mem h)
     ·rw [List.getD_eq_getElem?_getD, List.getElem?_eq_none h]; simp
    omega
theorem rawS_ten (l : List Nat) (h : l.length = 10) : rawS l 10 = [rawV (l.take 4), rawV ((l.take 7).drop 5), rawV ((l.take 10).drop 8)] := by
 obtain ⟨c0, c1, c2, c3, c4, c5, c6, c7, c8, c9, rfl⟩ := ten_of h
 rfl
end Go.Proofs.YtaamkfajnpobfaaGreat

namespace Go.Proofs.YtaamkfajnpobfaaGreat
open Go.RowKit

section
variable {P : Program} {n : Nat} {F : List (Nat × Value)} {w : World} {v : Value}
end
theorem Own.base {w : World} {B B' size n : Nat} {e : TypeId} {v : Value} {xs : List Value} (h : Own w B e size v n xs) (hb : B' ≤ B) : Own w B' e size v n xs := ⟨⟨h.row.1, h.row.2.imp id fun ⟨g, cap, cur, e1, e2, r⟩ => ⟨g, cap, cur, e1, Nat.le_trans hb e2, r⟩⟩⟩
end Go.Proofs.YtaamkfajnpobfaaGreat

namespace Go.Proofs.YtaamkfajnpobfaaGreat
open Go.RowKit

structure Only (w0 w : World) (g : Nat) : Prop where
 row : w0.grownBy w (some g)
theorem Only.step {w0 w w' : World} {g : Nat} (h : Only w0 w g) (hb : Below w.heap.size w w') : Only w0 w' g := ⟨only_below h.row hb⟩
theorem Only.put {w0 w w' : World} {g B : Nat} {T : TypeId} {cur cs : Array Value} (h : Only w0 w g) (_k : Blk w g T cur) (p : Put w w' g T cs) (_e : B ≤ g) : Only w0 w' g := ⟨only_trans h.row p.grown⟩
def turned (xs : List Value) (n i j : Nat) : Option Value := if j < i ∨ n ≤ j + i then xs[n - 1 - j]? else xs[j]?
theorem Own.blk {w : World} {B n : Nat} {e : TypeId} {v : Value} {xs : List Value} (h : Own w B e 1 v n xs) (h0 : 0 < n) : ∃ g cap cur, v = .slice (some ⟨g, 0, none⟩) n cap ∧ B ≤ g ∧ Blk w g e cur ∧ n ≤ cap ∧ cap ≤ maxLen ∧ cur.size = cap ∧ xs.length = n ∧ ∀ j, j < n → cur[j]? = xs[j]? := by
 obtain ⟨hl, ⟨_, h1⟩ | ⟨g, cap, cur, rfl, h1, h2, h3, h4, h5, h6⟩⟩ := h.row
 ·omega
 ·refine ⟨g, cap, cur, rfl, h1, h2, h3, h4, by omega, by omega, fun j hj => ?_⟩
  rw [← h6, List.getElem?_take_of_lt (by omega)]
  simp

end Go.Proofs.YtaamkfajnpobfaaGreat

namespace Go.Proofs.YtaamkfajnpobfaaGreat
open Go.RowKit

def numN (u : Nat) : Nat := ((List.range 21).find? fun N => !(decide (0 < u / 10 ^ N) || decide (N ≤ 0))).getD 0
def numT (n : Int) : List Nat := printed n 0 (numN n.natAbs)
def signS : List (List Nat) := [[43], [45], [42], [47], [], [], [60], [60, 61], [61], [33, 61], [62, 61], [62], [38], [124], [33], [45]]
def signP : List Int := [4, 4, 5, 5, 7, 7, 3, 3, 3, 3, 3, 3, 2, 1, 6, 6]
def bindT (op : Int) : List Nat × Int := if op < 5 ∨ 20 < op then ([], 7) else (signS.getD (op - 5).toNat [], signP.getD (op - 5).toNat 7)
def parT (least : Int) (x : Int × List Nat) : List Nat := if x.1 < least then [40] ++ x.2 ++ [41] else x.2
def joinT : List (List Nat) → List Nat
 | [] => []
 | s :: r => s ++ (r.flatMap fun t => [44, 32] ++ t)
def headT (op n : Int) (nm : List Nat) (l : List (Int × List Nat)) : List Nat :=
 if op = 1 then numT n else if op = 2 then dayT n.toNat else if op = 3 then nm else if op = 4 then [100, 97, 121]
 else if (bindT op).2 = 6 then (bindT op).1 ++ parT 6 (l.getD 0 (7, []))
 else if (bindT op).2 = 3 then parT 4 (l.getD 0 (7, [])) ++ [32] ++ (bindT op).1 ++ [32] ++ parT 4 (l.getD 1 (7, []))
 else if (bindT op).2 < 6 then parT (bindT op).2 (l.getD 0 (7, [])) ++ [32] ++ (bindT op).1 ++ [32] ++ parT ((bindT op).2 + 1) (l.getD 1 (7, []))
 else (if op = 9 then [109, 105, 110, 40] else if op = 10 then [109, 97, 120, 40] else [105, 102, 40]) ++ joinT (l.map (·.2)) ++ [41]
mutual
def exprT : Ex → List Nat
 | .mk op n nm l => headT op n nm (exprTL l)
def exprTL : List Ex → List (Int × List Nat)
 | [] => []
 | e :: r => ((bindT e.op).2, exprT e) :: exprTL r
end
def pairT (e : Ex) : Int × List Nat := ((bindT e.op).2, exprT e)
def inT (e : Ex) (least : Int) : List Nat := parT least (pairT e)
end Go.Proofs.YtaamkfajnpobfaaGreat

namespace Go.Proofs.YtaamkfajnpobfaaGreat
open Go.RowKit

end Go.Proofs.YtaamkfajnpobfaaGreat

namespace Go.Proofs.YtaamkfajnpobfaaGreat
open Go.RowKit

end Go.Proofs.YtaamkfajnpobfaaGreat

namespace Go.Proofs.YtaamkfajnpobfaaGreat
open Go.RowKit

section
variable {P : Program} {Q : Exit → Act → World → Prop} {n : Nat} {F F' : List (Nat × Value)} {w : World}
def JoinD (n : Nat) (F : List (Nat × Value)) (J : Inhabited (List Deferred) → World → Prop) (a : Act) (w : World) : Prop := ∃ I, @Fr I n F a ∧ J I w
end
end Go.Proofs.YtaamkfajnpobfaaGreat

namespace Go.Proofs.YtaamkfajnpobfaaGreat
open Go.RowKit

theorem WrRet.trans {B g : Nat} {bs : List Nat} {w w1 w2 : World} {e : Ending} (h : Wt B w w1) (k : WrRet B g bs w1 e w2) : WrRet B g bs w e w2 := ⟨k.1, h.wt k.2.1, k.2.2⟩
end Go.Proofs.YtaamkfajnpobfaaGreat

namespace Go.Proofs.YtaamkfajnpobfaaGreat
open Go.RowKit

def RecW (B g L : Nat) (w : World) (e : Ex) (A : Option Addr) : Prop := ∀ (i : Nat) (x : Ex), e.args[i]? = some x → ∃ ad A' c', A = some ad ∧
 (∀ W, Below B w W → ∀ (j : Nat) (u : Value), ([.int .i64 x.op, .int .i64 x.n, .string (strOf x.name), .slice A' x.args.length c'] : List Value)[j]? = some u → W.cell? ((ad.add (i * 4)).add j) = some u) ∧
 (∀ W bs' least, Below B w W → Bw W B g bs' → I64 least → bs'.length ≤ L → Calls Tryz.prog 40 #[.pointer (some ⟨g, 0, none⟩), .agg #[.int .i64 x.op, .int .i64 x.n, .string (strOf x.name), .slice A' x.args.length c'], .int .i64 least] W (WrRet B g (bs' ++ inT x least) W))
def ExJ (Q : Exit → Act → World → Prop) (B g g3 g4 n m : Nat) (bs T : List Nat) (cs : Array Value) (w : World) (I : Inhabited (List Deferred)) (wc : World) : Prop :=
 Wt B w wc ∧ Blk wc g3 83 #[.pointer (some ⟨g, 0, none⟩)] ∧ Blk wc g4 35 cs ∧ ∃ bs0, Bw wc B g bs0 ∧ bs0.length ≤ m ∧ ∀ wx ex, (ex = Exit.ret ∨ ex = Exit.normal) → Wt B w wx → Bw wx B g (bs0 ++ T) → @Post I Q ex n [] wx
end Go.Proofs.YtaamkfajnpobfaaGreat

namespace Go.Proofs.YtaamkfajnpobfaaGreat
open Go.RowKit

def prText (right : Bool) (T : List Nat) : List Nat × Int := if right = false then ([], 1) else if 4000 < T.length then ([], 4) else (T, 0)
def printE (e : Ex) : List Nat × Int := prText (rightB e) (exprT e)
end Go.Proofs.YtaamkfajnpobfaaGreat

namespace Go.Proofs.YtaamkfajnpobfaaGreat
open Go.RowKit

theorem Rep.two {w : World} {g : Nat} {o : Int} {a b : Ex} {va vb : Value} {cs : Array Value} (k : Blk w g 35 cs) (hcs : cs.toList = flatC [va, vb]) (ho : I64 o) (ha : Rep w w.heap.size a va) (hb : Rep w w.heap.size b vb) :
  Rep w w.heap.size (.mk o 0 [] [a, b]) (.agg #[.int .i64 o, .int .i64 0, .string (strOf []), .slice (some ⟨g, 0, none⟩) 2 2]) := by
 refine RepE.mk (args := [a, b]) (vs := [va, vb]) rfl (by simp) ho (by unfold I64; omega) (by simp) (by simp) (fun i e v he hv => ?_) fun _ => ?_
 ·match i, he, hv with
  | 0, he, hv => injection he with he; injection hv with hv; subst he hv; exact ha
  | 1, he, hv => injection he with he; injection hv with hv; subst he hv; exact hb
  | i + 2, he, hv => cases he
 ·refine ⟨⟨g, 0, none⟩, rfl, k.lt, fun j u hu => ?_⟩
  rw [← hcs] at hu
  have hadd : (⟨g, 0, none⟩ : Addr).add j = ⟨g, j, none⟩ := by unfold Addr.add; split <;> simp_all
  rw [hadd, k.cell j]
  simpa using hu
theorem Rep.const (w : World) (o z : Int) (B : Nat) (ho : I64 o) (hz : I64 z) : Rep w B (.mk o z [] []) (.agg #[.int .i64 o, .int .i64 z, .string (strOf []), .slice none 0 0]) :=
 RepE.mk (args := []) (vs := []) rfl (by decide) ho hz (by simp) (by simp) (fun i e v he => by cases he) fun h => absurd rfl h
def cE (z : Int) : Ex := .mk 1 z [] []
def sE (a b : Ex) : Ex := .mk 6 0 [] [a, b]
theorem run_build_c (a b : Int) (w : World) : (Instr.build 35 #[(0, .int .i64 a), (1, .int .i64 b)]).run Tryz.prog w = .ok (.agg #[.int .i64 a, .int .i64 b, .string (strOf []), .slice none 0 0]) w := by
 have hu := Tryz.underlying35
 go_simp
 rfl
theorem run_build_s (a : Int) (g : Nat) (w : World) : (Instr.build 35 #[(0, .int .i64 a), (3, .slice (some ⟨g, 0, none⟩) 2 2)]).run Tryz.prog w = .ok (.agg #[.int .i64 a, .int .i64 0, .string (strOf []), .slice (some ⟨g, 0, none⟩) 2 2]) w := by
 have hu := Tryz.underlying35
 go_simp
 rfl
theorem Rep.step {w w' : World} {e : Ex} {v : Value} (h : Rep w w.heap.size e v) (hb : Below w.heap.size w w') : Rep w' w'.heap.size e v := (h.below hb).more hb.size
end Go.Proofs.YtaamkfajnpobfaaGreat

namespace Go.Proofs.YtaamkfajnpobfaaGreat
open Go.RowKit

inductive Tm where
 | mk (op : Int) (name : List Nat) (exprs : List Ex) (terms : List Tm)
def Tm.op : Tm → Int | .mk op _ _ _ => op
def Tm.name : Tm → List Nat | .mk _ nm _ _ => nm
def Tm.exprs : Tm → List Ex | .mk _ _ l _ => l
def Tm.terms : Tm → List Tm | .mk _ _ _ l => l
mutual
def Tm.nodes : Tm → Nat
 | .mk _ _ es l => 1 + nodesL es + nodesM l
def nodesM : List Tm → Nat
 | [] => 0
 | e :: r => e.nodes + nodesM r
end
mutual
def Tm.depth : Tm → Nat
 | .mk _ _ es l => 1 + max (depthL es) (depthM l)
def depthM : List Tm → Nat
 | [] => 0
 | e :: r => max e.depth (depthM r)
end
theorem Tm.nodes_mk (op : Int) (nm : List Nat) (es : List Ex) (l : List Tm) : (Tm.mk op nm es l).nodes = 1 + nodesL es + nodesM l := by rw [Tm.nodes]
theorem Tm.depth_mk (op : Int) (nm : List Nat) (es : List Ex) (l : List Tm) : (Tm.mk op nm es l).depth = 1 + max (depthL es) (depthM l) := by rw [Tm.depth]
theorem Tm.nodes_eq (t : Tm) : t.nodes = 1 + nodesL t.exprs + nodesM t.terms := by cases t; exact Tm.nodes_mk _ _ _ _
theorem Tm.depth_eq (t : Tm) : t.depth = 1 + max (depthL t.exprs) (depthM t.terms) := by cases t; exact Tm.depth_mk _ _ _ _
theorem nodesM_mem {l : List Tm} {t : Tm} (h : t ∈ l) : t.nodes ≤ nodesM l := by
 induction l with
 | nil => cases h
 | cons x r ih =>
  unfold nodesM
  rcases List.mem_cons.1 h with rfl | h
  ·omega
  ·have := ih h; omega
theorem depthM_mem {l : List Tm} {t : Tm} (h : t ∈ l) : t.depth ≤ depthM l := by
 induction l with
 | nil => cases h
 | cons x r ih =>
  unfold depthM
  rcases List.mem_cons.1 h with rfl | h
  ·omega
  ·have := ih h; omega
theorem Tm.term_nodes {t x : Tm} (h : x ∈ t.terms) : x.nodes < t.nodes := by have := nodesM_mem h; have := t.nodes_eq; omega
theorem Tm.term_depth {t x : Tm} (h : x ∈ t.terms) : x.depth < t.depth := by have := depthM_mem h; have := t.depth_eq; omega
theorem Tm.expr_depth {t : Tm} {x : Ex} (h : x ∈ t.exprs) : x.depth < t.depth := by have := depthL_mem h; have := t.depth_eq; omega
theorem Tm.nodes_pos (t : Tm) : 0 < t.nodes := by have := t.nodes_eq; omega
mutual
theorem Tm.depth_nodes : ∀ t : Tm, t.depth ≤ t.nodes
 | .mk _ _ es l => by unfold Tm.depth Tm.nodes; have := depthM_nodesM l; have := depthL_nodesL es; omega
theorem depthM_nodesM : ∀ l : List Tm, depthM l ≤ nodesM l
 | [] => Nat.le_refl _
 | e :: r => by unfold depthM nodesM; have := Tm.depth_nodes e; have := depthM_nodesM r; omega
end
inductive RepT (w : World) (S : Nat → Prop) : Tm → Value → Prop
 | mk {op : Int} {nm : List Nat} {es : List Ex} {ts : List Tm} {A A' : Option Addr} {c c' : Nat} {vs us : List Value} (hl : vs.length = es.length) (hl' : us.length = ts.length) (h60 : es.length ≤ 1000) (h60' : ts.length ≤ 1000) (hop : I64 op) (hnm : ∀ d ∈ nm, d < 256) (hnl : nm.length ≤ 9223372036854775807)
   (hr : ∀ (i : Nat) (e : Ex) (v : Value), es[i]? = some e → vs[i]? = some v → RepE w S e v) (hr' : ∀ (i : Nat) (t : Tm) (v : Value), ts[i]? = some t → us[i]? = some v → RepT w S t v) (hA : Rows w S A (flatC vs)) (hA' : Rows w S A' (flatC us)) : RepT w S (.mk op nm es ts) (.agg #[.int .i64 op, .string (strOf nm), .slice A es.length c, .slice A' ts.length c'])
theorem Rows.mono {w w' : World} {S S' : Nat → Prop} {A : Option Addr} {xs : List Value} (h : Rows w S A xs) (hS : ∀ b, S b → S' b) (hc : ∀ p : Addr, S p.block → w'.cell? p = w.cell? p) : Rows w' S' A xs := fun hne => by
 obtain ⟨ad, e1, e2, e3⟩ := h hne
 exact ⟨ad, e1, hS _ e2, fun j u hu => (hc _ (by rw [block_of_add]; exact e2)).trans (e3 j u hu)⟩
theorem RepT.mono {w w' : World} {S S' : Nat → Prop} {t : Tm} {v : Value} (h : RepT w S t v) (hS : ∀ b, S b → S' b) (hc : ∀ p : Addr, S p.block → w'.cell? p = w.cell? p) : RepT w' S' t v := by
 induction h with
 | mk hl hl' h60 h60' hop hnm hnl hr hr' hA hA' ih => exact .mk hl hl' h60 h60' hop hnm hnl (fun i e v he hv => (hr i e v he hv).mono hS hc) ih (hA.mono hS hc) (hA'.mono hS hc)
def RepB (w : World) (B : Nat) (t : Tm) (v : Value) : Prop := RepT w (· < B) t v
theorem RepB.below {w w' : World} {B : Nat} {t : Tm} {v : Value} (h : RepB w B t v) (hb : Below B w w') : RepB w' B t v := RepT.mono h (fun _ h => h) (fun _ hp => hb.cell hp)
theorem RepB.more {w : World} {B B' : Nat} {t : Tm} {v : Value} (h : RepB w B t v) (hb : B ≤ B') : RepB w B' t v := RepT.mono h (fun _ h => Nat.lt_of_lt_of_le h hb) (fun _ _ => rfl)
theorem RepB.step {w w' : World} {t : Tm} {v : Value} (h : RepB w w.heap.size t v) (hb : Below w.heap.size w w') : RepB w' w'.heap.size t v := (h.below hb).more hb.size
theorem RepT.cells4 {w : World} {S : Nat → Prop} {t : Tm} {v : Value} (h : RepT w S t v) : v.cells.size = 4 := by
 cases h; rfl
theorem RepT.form {w : World} {S : Nat → Prop} {t : Tm} {v : Value} (h : RepT w S t v) : ∃ A c A' c', v = .agg #[.int .i64 t.op, .string (strOf t.name), .slice A t.exprs.length c, .slice A' t.terms.length c'] := by
 cases h; exact ⟨_, _, _, _, rfl⟩
def ExAt (w : World) (B : Nat) (es : List Ex) (A : Option Addr) : Prop := ∀ i x, es[i]? = some x → ∃ ad A' c', A = some ad ∧ ad.block < B ∧ Rep w B x (.agg #[.int .i64 x.op, .int .i64 x.n, .string (strOf x.name), .slice A' x.args.length c']) ∧ ∀ (j : Nat) (u : Value), ([.int .i64 x.op, .int .i64 x.n, .string (strOf x.name), .slice A' x.args.length c'] : List Value)[j]? = some u → w.cell? ((ad.add (i * 4)).add j) = some u
def tmV (x : Tm) (A A' : Option Addr) (c c' : Nat) : List Value := [.int .i64 x.op, .string (strOf x.name), .slice A x.exprs.length c, .slice A' x.terms.length c']
def TmAt (w : World) (B : Nat) (ts : List Tm) (A : Option Addr) : Prop := ∀ i x, ts[i]? = some x → ∃ ad A1 A2 c1 c2, A = some ad ∧ ad.block < B ∧ RepB w B x (.agg #[.int .i64 x.op, .string (strOf x.name), .slice A1 x.exprs.length c1, .slice A2 x.terms.length c2]) ∧ ∀ (j : Nat) (u : Value), (tmV x A1 A2 c1 c2)[j]? = some u → w.cell? ((ad.add (i * 4)).add j) = some u
theorem ExAt.below {w w' : World} {B : Nat} {es : List Ex} {A : Option Addr} (h : ExAt w B es A) (hb : Below B w w') : ExAt w' B es A := fun i x hx => by
 obtain ⟨ad, A', c', e1, e2, e3, e4⟩ := h i x hx
 exact ⟨ad, A', c', e1, e2, e3.below hb, fun j u hu => (hb.cell (by rw [block_of_add, block_of_add]; exact e2)).trans (e4 j u hu)⟩
theorem TmAt.below {w w' : World} {B : Nat} {ts : List Tm} {A : Option Addr} (h : TmAt w B ts A) (hb : Below B w w') : TmAt w' B ts A := fun i x hx => by
 obtain ⟨ad, A1, A2, c1, c2, e1, e2, e3, e4⟩ := h i x hx
 exact ⟨ad, A1, A2, c1, c2, e1, e2, e3.below hb, fun j u hu => (hb.cell (by rw [block_of_add, block_of_add]; exact e2)).trans (e4 j u hu)⟩
theorem exAt_of {w : World} {B : Nat} {es : List Ex} {vs : List Value} {A : Option Addr} (hl : vs.length = es.length) (hr : ∀ (i : Nat) (e : Ex) (v : Value), es[i]? = some e → vs[i]? = some v → RepE w (· < B) e v) (hA : Rows w (· < B) A (flatC vs)) : ExAt w B es A := fun i x hx => by
 have hi := (List.getElem?_eq_some_iff.1 hx).1
 obtain ⟨v, hv⟩ : ∃ v, vs[i]? = some v := ⟨_, List.getElem?_eq_getElem (by omega)⟩
 have hrx := hr i x v hx hv
 have h4 : ∀ y ∈ vs, y.cells.size = 4 := fun y hy => by
  obtain ⟨k, hk, rfl⟩ := List.getElem_of_mem hy
  obtain ⟨z, hz⟩ : ∃ z, es[k]? = some z := ⟨_, List.getElem?_eq_getElem (by omega)⟩
  exact (hr k z _ hz (List.getElem?_eq_getElem hk)).cells4
 obtain ⟨A', c', rfl⟩ := hrx.form
 have hne : flatC vs ≠ [] := fun h0 => by have := flatC_at h4 hv 0 _ rfl; rw [h0] at this; cases this
 obtain ⟨ad, rfl, hb, hc⟩ := hA hne
 exact ⟨ad, A', c', rfl, hb, hrx, fun j u hu => by rw [add_of_add]; exact hc _ _ (flatC_at h4 hv j u (by simpa [Value.cells] using hu))⟩
theorem tmAt_of {w : World} {B : Nat} {ts : List Tm} {vs : List Value} {A : Option Addr} (hl : vs.length = ts.length) (hr : ∀ (i : Nat) (e : Tm) (v : Value), ts[i]? = some e → vs[i]? = some v → RepT w (· < B) e v) (hA : Rows w (· < B) A (flatC vs)) : TmAt w B ts A := fun i x hx => by
 have hi := (List.getElem?_eq_some_iff.1 hx).1
 obtain ⟨v, hv⟩ : ∃ v, vs[i]? = some v := ⟨_, List.getElem?_eq_getElem (by omega)⟩
 have hrx := hr i x v hx hv
 have h4 : ∀ y ∈ vs, y.cells.size = 4 := fun y hy => by
  obtain ⟨k, hk, rfl⟩ := List.getElem_of_mem hy
  obtain ⟨z, hz⟩ : ∃ z, ts[k]? = some z := ⟨_, List.getElem?_eq_getElem (by omega)⟩
  exact (hr k z _ hz (List.getElem?_eq_getElem hk)).cells4
 obtain ⟨A1, c1, A2, c2, rfl⟩ := hrx.form
 have hne : flatC vs ≠ [] := fun h0 => by have := flatC_at h4 hv 0 _ rfl; rw [h0] at this; cases this
 obtain ⟨ad, rfl, hb, hc⟩ := hA hne
 exact ⟨ad, A1, A2, c1, c2, rfl, hb, hrx, fun j u hu => by rw [add_of_add]; exact hc _ _ (flatC_at h4 hv j u (by simpa [Value.cells, tmV] using hu))⟩
structure RepTV (w : World) (B : Nat) (t : Tm) (A A' : Option Addr) : Prop where
 h60 : t.exprs.length ≤ 1000
 h60' : t.terms.length ≤ 1000
 op : I64 t.op
 name : ∀ d ∈ t.name, d < 256
 nlen : t.name.length ≤ 9223372036854775807
 expr : ExAt w B t.exprs A
 term : TmAt w B t.terms A'
theorem RepB.open {w : World} {B : Nat} {t : Tm} {v : Value} (h : RepB w B t v) : ∃ A c A' c', v = .agg #[.int .i64 t.op, .string (strOf t.name), .slice A t.exprs.length c, .slice A' t.terms.length c'] ∧ RepTV w B t A A' := by
 have h' : RepT w (· < B) t v := h
 cases h' with
 | @mk op nm es ts A A' c c' vs us hl hl' h60 h60' hop hnm hnl hr hr' hA hA' =>
  exact ⟨A, c, A', c', rfl, h60, h60', hop, hnm, hnl, exAt_of hl hr hA, tmAt_of hl' hr' hA'⟩
theorem RepTV.below {w w' : World} {B : Nat} {t : Tm} {A A' : Option Addr} (h : RepTV w B t A A') (hb : Below B w w') : RepTV w' B t A A' := ⟨h.h60, h.h60', h.op, h.name, h.nlen, h.expr.below hb, h.term.below hb⟩
end Go.Proofs.YtaamkfajnpobfaaGreat

namespace Go.Proofs.YtaamkfajnpobfaaGreat
open Go.RowKit

def szX (s : Int × Int) : List Ex → Int × Int
 | [] => s
 | e :: r => szX (withS s (szE e)) r
mutual
def szT : Tm → Int × Int
 | .mk _ _ es l => szM (szX (1, 1) es) l
def szM (s : Int × Int) : List Tm → Int × Int
 | [] => s
 | t :: r => if 1000 ≤ s.1 then (1000, 1000) else szM (withS s (szT t)) r
end
theorem szX_Sz : ∀ (l : List Ex) (s : Int × Int), Sz s → Sz (szX s l)
 | [], _, h => h
 | e :: r, s, h => szX_Sz r _ (withS_Sz h (szE_Sz e))
mutual
theorem szT_Sz : ∀ t, Sz (szT t)
 | .mk op nm es l => by rw [szT]; exact szM_Sz _ (szX_Sz es _ ⟨by simp, by simp⟩) l
theorem szM_Sz : ∀ (s : Int × Int), Sz s → ∀ l, Sz (szM s l)
 | s, h, [] => by rw [szM]; exact h
 | s, h, e :: r => by
  rw [szM]
  split
  ·exact ⟨by simp, by simp⟩
  ·exact szM_Sz _ (withS_Sz h (szT_Sz e)) r
end
theorem withS_cnt {s t : Int × Int} {n d n' d' : Nat} (h : Cnt s n d) (k : Cnt t n' d') (h2 : d ≤ n) (h3 : d' ≤ n') : Cnt (withS s t) (n + n') (max d (1 + d')) ∨ (1000 ≤ n + n' ∧ Cnt (withS s t) (n + n') (max d (1 + d'))) := by
 obtain ⟨a, b⟩ := h
 obtain ⟨a', b'⟩ := k
 left
 refine ⟨by unfold withS; simp only; omega, fun h => ?_⟩
 unfold withS
 simp only
 rw [b (by omega), b' (by omega)]
 omega
theorem szX_cnt : ∀ (l : List Ex) (s : Int × Int) (n d : Nat), Cnt s n d → 1 ≤ d → d ≤ n → Cnt (szX s l) (n + nodesL l) (max d (1 + depthL l)) ∧ max d (1 + depthL l) ≤ n + nodesL l
 | [], s, n, d, h, h1, h2 => by
  rw [nodesL, depthL, show max d (1 + 0) = d by omega]
  exact ⟨h, by omega⟩
 | e :: r, s, n, d, h, h1, h2 => by
  rw [nodesL, depthL]
  have he := szE_cnt e
  have hn := Ex.depth_nodes e
  have hp := e.nodes_pos
  have hw := (withS_cnt h he h2 hn).elim id (fun h => h.2)
  have := szX_cnt r _ _ _ hw (by omega) (by omega)
  rw [show n + (e.nodes + nodesL r) = n + e.nodes + nodesL r by omega, show max d (1 + max e.depth (depthL r)) = max (max d (1 + e.depth)) (1 + depthL r) by omega]
  exact this
mutual
theorem szT_cnt : ∀ t, Cnt (szT t) t.nodes t.depth
 | .mk op nm es l => by
  rw [szT, Tm.nodes_mk, Tm.depth_mk]
  have h0 : Cnt (1, 1) 1 1 := ⟨(by show (1 : Int) = min ((1 : Nat) : Int) 1000; omega), fun _ => rfl⟩
  obtain ⟨h1, h2⟩ := szX_cnt es (1, 1) 1 1 h0 (Nat.le_refl _) (Nat.le_refl _)
  have := szM_cnt _ _ _ h1 (by omega) h2 l
  rwa [show max (max 1 (1 + depthL es)) (1 + depthM l) = 1 + max (depthL es) (depthM l) by omega] at this
theorem szM_cnt : ∀ (s : Int × Int) (n d : Nat), Cnt s n d → 1 ≤ d → d ≤ n → ∀ l, Cnt (szM s l) (n + nodesM l) (max d (1 + depthM l))
 | s, n, d, h, h1, h2, [] => by
  rw [szM, nodesM, depthM, show max d (1 + 0) = d by omega]
  exact h
 | s, n, d, h, h1, h2, e :: r => by
  rw [szM, nodesM, depthM]
  have he := szT_cnt e
  have hn := Tm.depth_nodes e
  have hp := e.nodes_pos
  split
  ·obtain ⟨a, b⟩ := h
   exact ⟨by simp only; omega, fun h => by omega⟩
  ·have hw := (withS_cnt h he h2 hn).elim id (fun h => h.2)
   have := szM_cnt _ _ _ hw (by omega) (by omega) r
   rw [show n + (e.nodes + nodesM r) = n + e.nodes + nodesM r by omega, show max d (1 + max e.depth (depthM r)) = max (max d (1 + e.depth)) (1 + depthM r) by omega]
   exact this
end
theorem zero_api_Term : zeroIs Tryz.prog 25 = some (some (.agg #[.int .i64 0, .string { data := #[] }, .slice none 0 0, .slice none 0 0])) := by kernel_rfl
def szY (at_ : Nat) (s : Int × Int) : List Ex → Int × Int
 | [] => s
 | e :: r => szY at_ (withS s (szF e (at_ + 1))) r
mutual
def szU : Tm → Nat → Int × Int
 | .mk _ _ es l, at_ => szV at_ (szY at_ (1, 1) es) l
def szV (at_ : Nat) (s : Int × Int) : List Tm → Int × Int
 | [] => s
 | t :: r => if 1000 ≤ at_ ∨ 1000 ≤ s.1 then (1000, 1000) else szV at_ (withS s (szU t (at_ + 1))) r
end
theorem szU_eq (t : Tm) (at_ : Nat) : szU t at_ = szV at_ (szY at_ (1, 1) t.exprs) t.terms := by cases t; rw [szU]; rfl
theorem szV_cons (at_ : Nat) (s : Int × Int) (e : Tm) (r : List Tm) : szV at_ s (e :: r) = if 1000 ≤ at_ ∨ 1000 ≤ s.1 then (1000, 1000) else szV at_ (withS s (szU e (at_ + 1))) r := by rw [szV]
theorem szV_nil (at_ : Nat) (s : Int × Int) : szV at_ s [] = s := by rw [szV]
theorem szY_Sz (at_ : Nat) : ∀ (l : List Ex) (s : Int × Int), Sz s → Sz (szY at_ s l)
 | [], _, h => h
 | e :: r, s, h => szY_Sz at_ r _ (withS_Sz h (szF_Sz e _))
mutual
theorem szU_Sz : ∀ (t : Tm) (at_ : Nat), Sz (szU t at_)
 | .mk op nm es l, at_ => by rw [szU]; exact szV_Sz at_ _ (szY_Sz at_ es _ ⟨by simp, by simp⟩) l
theorem szV_Sz : ∀ (at_ : Nat) (s : Int × Int), Sz s → ∀ l, Sz (szV at_ s l)
 | at_, s, h, [] => by rw [szV]; exact h
 | at_, s, h, e :: r => by
  rw [szV]
  split
  ·exact ⟨by simp, by simp⟩
  ·exact szV_Sz at_ _ (withS_Sz h (szU_Sz e _)) r
end
theorem withS_top {t : Int × Int} (h : Sz t) : withS (1000, 1000) t = (1000, 1000) := by
 unfold Sz at h
 unfold withS
 simp only [Prod.mk.injEq]
 omega
theorem szY_big (at_ : Nat) : ∀ (l : List Ex), szY at_ (1000, 1000) l = (1000, 1000)
 | [] => rfl
 | e :: r => by rw [szY, withS_top (szF_Sz e _)]; exact szY_big at_ r
theorem szV_big (at_ : Nat) (l : List Tm) : szV at_ (1000, 1000) l = (1000, 1000) := by
 cases l with
 | nil => rw [szV_nil]
 | cons e r => rw [szV_cons, if_pos (.inr (by decide))]
theorem szY_or (at_ : Nat) : ∀ (l : List Ex) (s : Int × Int), Sz s → szY at_ s l = szX s l ∨ (szY at_ s l = (1000, 1000) ∧ 1001 ≤ depthL l + at_)
 | [], s, h => .inl rfl
 | e :: r, s, h => by
  rw [szY, szX, depthL]
  rcases szF_or e (at_ + 1) with h3 | ⟨h3, h4⟩
  ·rw [h3]
   rcases szY_or at_ r (withS s (szE e)) (withS_Sz h (szE_Sz e)) with h5 | ⟨h5, h6⟩
   ·exact .inl h5
   ·exact .inr ⟨h5, by omega⟩
  ·rw [h3, withS_big h, szY_big]
   exact .inr ⟨rfl, by omega⟩
mutual
theorem szU_or : ∀ (t : Tm) (at_ : Nat), szU t at_ = szT t ∨ (szU t at_ = (1000, 1000) ∧ 1002 ≤ t.depth + at_)
 | .mk op nm es l, at_ => by
  rw [szU, szT, Tm.depth_mk]
  rcases szY_or at_ es (1, 1) ⟨by simp, by simp⟩ with h0 | ⟨h0, h1⟩
  ·rw [h0]
   rcases szV_or at_ _ (szX_Sz es (1, 1) ⟨by simp, by simp⟩) l with h | ⟨h1, h2⟩
   ·exact .inl h
   ·exact .inr ⟨h1, by omega⟩
  ·rw [h0, szV_big]
   exact .inr ⟨rfl, by omega⟩
theorem szV_or : ∀ (at_ : Nat) (s : Int × Int), Sz s → ∀ l, szV at_ s l = szM s l ∨ (szV at_ s l = (1000, 1000) ∧ 1001 ≤ depthM l + at_)
 | at_, s, h, [] => by rw [szV, szM]; exact .inl rfl
 | at_, s, h, e :: r => by
  rw [szV, szM, depthM]
  have hd : 0 < e.depth := by rw [e.depth_eq]; omega
  by_cases h1 : 1000 ≤ s.1
  ·rw [if_pos (.inr h1), if_pos h1]; exact .inl rfl
  ·by_cases h2 : 1000 ≤ at_
   ·rw [if_pos (.inl h2)]; exact .inr ⟨rfl, by omega⟩
   ·rw [if_neg (by omega), if_neg h1]
    rcases szU_or e (at_ + 1) with h3 | ⟨h3, h4⟩
    ·rw [h3]
     rcases szV_or at_ (withS s (szT e)) (withS_Sz h (szT_Sz e)) r with h5 | ⟨h5, h6⟩
     ·exact .inl h5
     ·exact .inr ⟨h5, by omega⟩
    ·rw [h3, withS_big h, szV_big]
     exact .inr ⟨rfl, by omega⟩
end
theorem szU_cnt (t : Tm) : Cnt (szU t 0) t.nodes t.depth := by
 rcases szU_or t 0 with h | ⟨h1, h2⟩
 ·rw [h]; exact szT_cnt t
 ·rw [h1]
  have := t.depth_nodes
  exact ⟨by simp only; omega, fun h => by omega⟩
theorem sizeTerm_all (N : Nat) : ∀ (t : Tm) (at_ : Nat) (B : Nat) (v : Value) (w : World), t.nodes ≤ N → at_ ≤ 1000 → RepB w B t v → B ≤ w.heap.size → Calls Tryz.prog 57 #[v, .int .i64 (at_ : Int)] w fun en w' => en = .returned (.agg #[.int .i64 (szU t at_).1, .int .i64 (szU t at_).2]) ∧ Grow w w' := by
 induction N with
 | zero => intro t at_ B v w hN; have := t.nodes_pos; omega
 | succ N ih =>
 intro t at_ B v w hN hdep hrep hB
 obtain ⟨A, c, A', c', rfl, hv⟩ := hrep.open
 have bel := Below.refl w.heap.size w
 have hdp : 0 < t.depth := by rw [t.depth_eq]; omega
 have h60 := hv.h60
 have h60' := hv.h60'
 refine Zs 48 Tryz.func57 ?_
 refine Zsr ?_
 refine Seq.box rfl rfl rfl rfl rfl ?_
 intro g2 w1 n2
 have e2 := Nat.le_trans bel.size n2.ge
 replace bel := bel.step n2.below
 have k2 := n2.blk
 refine Zl zero_term_size ?_
 intro g4 w2 n4
 have e4 := Nat.le_trans bel.size n4.ge
 have l4 := Nat.lt_of_lt_of_le k2.lt n4.ge
 replace bel := bel.step n4.below
 replace k2 := k2.step n4.below
 have k4 := n4.blk
 refine Zk4 0 1 2 4 (Ztq ?_)
 refine Zv (Runs.build rfl rfl (run_build_size _ _ _)) ?_
 refine Zl zero_term_size ?_
 intro g5 w3 n5
 have e5 := Nat.le_trans bel.size n5.ge
 have l5 := Nat.lt_of_lt_of_le k4.lt n5.ge
 have l5_k2 := Nat.lt_of_lt_of_le k2.lt n5.ge
 replace bel := bel.step n5.below
 replace k2 := k2.step n5.below
 replace k4 := k4.step n5.below
 have k5 := n5.blk
 refine Zo 2 k5 ?_
 intro w4 pw4
 replace bel := bel.put k5 pw4 e5
 replace k2 := k2.put pw4 (by omega)
 replace k4 := k4.put pw4 (by omega)
 replace k5 := pw4.blk
 refine Zk5 0 1 2 4 5 (Zts (Zsr ?_))
 refine Zf 2 Tryz.underlying25 ?_
 refine Zv (Runs.loadB rfl rfl Tryz.underlying22 rfl k2 rfl) ?_
 refine Zv (Runs.len rfl rfl Tryz.underlying22) ?_
 refine Zm ?_
 refine Zk8 0 1 2 4 5 12 13 14 (Zt (Cd.block ?_))
 refine Cd.loop (σ := Nat × (Int × Int)) (fun s => [(1, .int .i64 (at_ : Int)), (2, .pointer (some ⟨g2, 0, none⟩)), (4, .pointer (some ⟨g4, 0, none⟩)), (5, .pointer (some ⟨g5, 0, none⟩)), (12, .slice A t.exprs.length c), (13, .int .i64 (t.exprs.length : Int)), (14, .int .i64 (s.1 : Int))])
  (fun s wr => s.1 ≤ t.exprs.length ∧ Sz s.2 ∧ szY at_ s.2 (t.exprs.drop s.1) = szY at_ (1, 1) t.exprs ∧ Below w.heap.size w wr ∧ Blk wr g2 25 #[.int .i64 t.op, .string (strOf t.name), .slice A t.exprs.length c, .slice A' t.terms.length c'] ∧ Blk wr g4 105 #[.int .i64 0, .int .i64 0] ∧ Blk wr g5 105 #[.int .i64 s.2.1, .int .i64 s.2.2]) (fun s => t.exprs.length - s.1) (0, (1, 1)) ⟨Nat.zero_le _, ⟨by simp, by simp⟩, rfl, bel, k2, k4, k5⟩ ⟨rfl, rfl, rfl, rfl, rfl, rfl, rfl, trivial⟩ ?_
 clear bel k2 k4 k5
 rintro ⟨k, s⟩ wr ⟨hk, hs, hsz, bel, k2, k4, k5⟩
 simp only at hk hs hsz k5
 show Cd _ _ _ _ [(1, .int .i64 (at_ : Int)), (2, .pointer (some ⟨g2, 0, none⟩)), (4, .pointer (some ⟨g4, 0, none⟩)), (5, .pointer (some ⟨g5, 0, none⟩)), (12, .slice A t.exprs.length c), (13, .int .i64 (t.exprs.length : Int)), (14, .int .i64 (k : Int))] _
 refine Zsr ?_
 refine Zv (Runs.lss rfl rfl rfl) ?_
 refine Zk8 1 2 4 5 12 13 14 15 (Zts ?_)
 refine Cd.condD rfl (fun hc => ?_) (fun hc => ?_)
 ·obtain ⟨x, hx⟩ : ∃ x, t.exprs[k]? = some x := ⟨_, List.getElem?_eq_getElem (show k < t.exprs.length by omega)⟩
  obtain ⟨ad, Ax, cx, rfl, hbl, hrx, hc⟩ := hv.expr k x hx
  have hxm := List.mem_of_getElem? hx
  have hxd := Tm.expr_depth hxm
  have hc := fun j u hj => ((bel.mono hB).cell (p := (ad.add (k * 4)).add j) (by rw [block_of_add, block_of_add]; exact hbl)).trans (hc j u hj)
  have hdrop : t.exprs.drop k = x :: t.exprs.drop (k + 1) := by
   rw [List.drop_eq_getElem_cons (show k < t.exprs.length by omega)]
   congr 1
   obtain ⟨_, he⟩ := List.getElem?_eq_some_iff.1 hx
   exact he
  rw [hdrop, szY] at hsz
  have hrec := fun W (hb : Below w.heap.size w W) => sizeExpr_all x.nodes x (at_ + 1) B _ W (Nat.le_refl _) (by omega) (hrx.below (hb.mono hB)) (Nat.le_trans hB hb.size)
  have hxs := szF_Sz x (at_ + 1)
  have hws := withS_Sz hs hxs
  refine Cd.skip (Zts (Cd.block (Zsr ?_)))
  refine Zv (Runs.indexN rfl rfl rfl Tryz.underlying22 (s := 4) (by kernel_rfl) (j := k) rfl (by omega)) ?_
  refine Zv (Runs.loadF (ps := [.int .i64 x.op, .int .i64 x.n, .string (strOf x.name), .slice Ax x.args.length cx]) rfl rfl Tryz.underlying35 rfl (m := 4) (by kernel_rfl) rfl hc) ?_
  refine Zl zero_api_Expr ?_
  intro g7 w5 n7
  have e7 := Nat.le_trans bel.size n7.ge
  have l7 := Nat.lt_of_lt_of_le k5.lt n7.ge
  have l7_k2 := Nat.lt_of_lt_of_le k2.lt n7.ge
  have l7_k4 := Nat.lt_of_lt_of_le k4.lt n7.ge
  replace bel := bel.step n7.below
  replace k2 := k2.step n7.below
  replace k4 := k4.step n7.below
  replace k5 := k5.step n7.below
  have k7 := n7.blk
  refine Zo 4 k7 ?_
  intro w6 pw6
  replace bel := bel.put k7 pw6 e7
  replace k2 := k2.put pw6 (by omega)
  replace k4 := k4.put pw6 (by omega)
  replace k5 := k5.put pw6 (by omega)
  replace k7 := pw6.blk
  refine Zk9 1 2 4 5 7 12 13 14 15 (Zt ?_)
  refine Cd.draw 6 (by kernel_rfl) [] (.inl rfl) rfl Grow Grow.refl (fun _ _ _ => Grow.trans) ?_
  intro w7 hw7 zw7
  replace bel := bel.step hw7
  replace k2 := k2.step hw7
  replace k4 := k4.step hw7
  replace k5 := k5.step hw7
  replace k7 := k7.step hw7
  have zbel := bel.size
  have zlt := k7.lt
  refine Zd (fun w hG => Runs.loadW rfl rfl Tryz.underlying105 rfl (k5.step hG) (m := 2) (by kernel_rfl) rfl) ?_
  refine Zd (fun w hG => Runs.loadW rfl rfl Tryz.underlying35 rfl (k7.step hG) (m := 4) (by kernel_rfl) rfl) ?_
  refine Zdm ?_
  refine Zd (fun w hG => Runs.addI rfl rfl rfl (by omega) (by omega)) ?_
  refine Dr.callV rfl (fun w => Ze Tryz.func73) rfl (fun w hG => hrec w (bel.step hG)) ?_
  refine Dr.callV rfl (fun w => Ze Tryz.func103) rfl (fun w hG => with_any s (szF x (at_ + 1)) w hs.1 hs.2 hxs.1 hxs.2) ?_
  refine Dr.nil ?_
  refine FinX.done (F' := [(1, _), (2, _), (4, _), (5, _), (7, _), (12, _), (13, _), (14, _), (15, _), (23, _)]) rfl ⟨rfl, rfl, rfl, rfl, rfl, rfl, rfl, rfl, rfl, rfl, trivial⟩ ?_
  intro w8 hw8 fw8
  replace bel := bel.step hw8
  replace k2 := k2.step hw8
  replace k4 := k4.step hw8
  replace k5 := k5.step hw8
  replace k7 := k7.step hw8
  refine Zo 2 k5 ?_
  intro w9 pw9
  replace bel := bel.put k5 pw9 e5
  replace k2 := k2.put pw9 (by omega)
  replace k4 := k4.put pw9 (by omega)
  replace k5 := pw9.blk
  refine Zk9 1 2 4 5 7 12 13 14 15 (Post.block_normal (Ztr ?_))
  refine Za_ ?_
  refine Zm ?_
  refine Zk9 1 2 4 5 7 12 13 14 15 ?_
  exact Post.round (k + 1, withS s (szF x (at_ + 1))) ⟨rfl, rfl, rfl, rfl, rfl, rfl, rfl, trivial⟩ ⟨by simp only; omega, hws, hsz, bel, k2, k4, k5⟩ (by simp only; omega)
 ·obtain rfl : k = t.exprs.length := by omega
  rw [List.drop_of_length_le (Nat.le_refl _), szY] at hsz
  have hT := szU_eq t at_
  rw [← hsz] at hT
  refine Cd.exit (Post.then_exit (Post.round_exit (Post.block_exit (Zts (Zsr ?_)))))
  refine Zf 3 Tryz.underlying25 ?_
  refine Zv (Runs.loadB rfl rfl Tryz.underlying23 rfl k2 rfl) ?_
  refine Zv (Runs.len rfl rfl Tryz.underlying23) ?_
  refine Zm ?_
  refine Zk11 1 2 4 5 12 13 14 15 26 27 28 (Zt (Cd.block ?_))
  refine Cd.loop (σ := Nat × (Int × Int)) (fun s => [(1, .int .i64 (at_ : Int)), (4, .pointer (some ⟨g4, 0, none⟩)), (5, .pointer (some ⟨g5, 0, none⟩)), (26, .slice A' t.terms.length c'), (27, .int .i64 (t.terms.length : Int)), (28, .int .i64 (s.1 : Int))])
   (fun s wr => s.1 ≤ t.terms.length ∧ Sz s.2 ∧ szV at_ s.2 (t.terms.drop s.1) = szU t at_ ∧ Below w.heap.size w wr ∧ Blk wr g4 105 #[.int .i64 0, .int .i64 0] ∧ Blk wr g5 105 #[.int .i64 s.2.1, .int .i64 s.2.2]) (fun s => t.terms.length - s.1) (0, s) ⟨Nat.zero_le _, hs, hT.symm, bel, k4, k5⟩ ⟨rfl, rfl, rfl, rfl, rfl, rfl, trivial⟩ ?_
  clear bel k2 k4 k5
  clear hs hsz hT
  rintro ⟨k, s⟩ wr ⟨hk, hs, hsz, bel, k4, k5⟩
  simp only at hk hs hsz k5
  show Cd _ _ _ _ [(1, .int .i64 (at_ : Int)), (4, .pointer (some ⟨g4, 0, none⟩)), (5, .pointer (some ⟨g5, 0, none⟩)), (26, .slice A' t.terms.length c'), (27, .int .i64 (t.terms.length : Int)), (28, .int .i64 (k : Int))] _
  refine Zsr ?_
  refine Zv (Runs.lss rfl rfl rfl) ?_
  refine Zk7 1 4 5 26 27 28 29 (Zts ?_)
  refine Cd.condD rfl (fun hc => ?_) (fun hc => ?_)
  ·obtain ⟨x, hx⟩ : ∃ x, t.terms[k]? = some x := ⟨_, List.getElem?_eq_getElem (show k < t.terms.length by omega)⟩
   obtain ⟨ad, A1, A2, c1, c2, rfl, hbl, hrx, hc⟩ := hv.term k x hx
   have hxm := List.mem_of_getElem? hx
   have hxd := Tm.term_depth hxm
   have hxn := Tm.term_nodes hxm
   have hc := fun j u hj => ((bel.mono hB).cell (p := (ad.add (k * 4)).add j) (by rw [block_of_add, block_of_add]; exact hbl)).trans (hc j u hj)
   have hdrop : t.terms.drop k = x :: t.terms.drop (k + 1) := by
    rw [List.drop_eq_getElem_cons (show k < t.terms.length by omega)]
    congr 1
    obtain ⟨_, he⟩ := List.getElem?_eq_some_iff.1 hx
    exact he
   rw [hdrop, szV_cons] at hsz
   refine Cd.skip (Zts (Cd.block (Zsr ?_)))
   refine Zv (Runs.indexN rfl rfl rfl Tryz.underlying23 (s := 4) (by kernel_rfl) (j := k) rfl (by omega)) ?_
   refine Zv (Runs.loadF (ps := [.int .i64 x.op, .string (strOf x.name), .slice A1 x.exprs.length c1, .slice A2 x.terms.length c2]) rfl rfl Tryz.underlying25 rfl (m := 4) (by kernel_rfl) rfl hc) ?_
   refine Zl zero_api_Term ?_
   intro g9 w5 n9
   have e9 := Nat.le_trans bel.size n9.ge
   have l9 := Nat.lt_of_lt_of_le k5.lt n9.ge
   have l9_k4 := Nat.lt_of_lt_of_le k4.lt n9.ge
   replace bel := bel.step n9.below
   replace k4 := k4.step n9.below
   replace k5 := k5.step n9.below
   have k9 := n9.blk
   refine Zo 4 k9 ?_
   intro w6 pw6
   replace bel := bel.put k9 pw6 e9
   replace k4 := k4.put pw6 (by omega)
   replace k5 := k5.put pw6 (by omega)
   replace k9 := pw6.blk
   refine Zk8 1 4 5 9 26 27 28 29 (Zts (Zsr ?_))
   refine Zm ?_
   refine Zv (Runs.geq rfl rfl rfl) ?_
   refine Zm ?_
   refine SeqC.start ?_
   refine Zco (fun hcx => Runs.fieldB 0 rfl rfl Tryz.underlying105 rfl (by kernel_rfl)) ?_
   refine SeqC.next rfl rfl rfl rfl rfl rfl rfl (fun hcx => Runs.loadB rfl rfl Tryz.underlying3 rfl k5 rfl) ?_
   refine SeqC.next rfl rfl rfl rfl rfl rfl rfl (fun hcx => Runs.geq rfl rfl rfl) ?_
   refine SeqC.or rfl rfl rfl rfl rfl rfl rfl ?_
   refine Zk9 1 4 5 9 26 27 28 29 38 (Zt ?_)
   refine Cd.cond rfl (fun h => ?_) (fun h => ?_)
   ·simp at h
    rw [if_pos (by omega)] at hsz
    refine Zsr ?_
    refine Zv (Runs.build rfl rfl (run_build_size _ _ _)) ?_
    refine Zo 2 k4 ?_
    intro w7 pw7
    replace bel := bel.put k4 pw7 e4
    replace k5 := k5.put pw7 (by omega)
    replace k9 := k9.put pw7 (by omega)
    replace k4 := pw7.blk
    refine Zk9 1 4 5 9 26 27 28 29 38 (Zt (Cd.ret (Post.then_ret (Post.block_ret (Post.then_ret (Post.round_ret (Post.block_ret (Post.then_ret ?_))))))))
    refine Post.endC rfl rfl k4 Tryz.underlying105 rfl (m := 2) (by kernel_rfl) rfl (.inl rfl) ?_
    rw [← hsz]
    exact ⟨rfl, bel⟩
   ·simp at h
    rw [if_neg (by omega)] at hsz
    have hrec := fun W (hb : Below w.heap.size w W) => ih x (at_ + 1) B _ W (by omega) (by omega) (hrx.below (hb.mono hB)) (Nat.le_trans hB hb.size)
    have hxs := szU_Sz x (at_ + 1)
    have hws := withS_Sz hs hxs
    refine Cd.skip (Zt ?_)
    refine Cd.draw 6 (by kernel_rfl) [] (.inl rfl) rfl Grow Grow.refl (fun _ _ _ => Grow.trans) ?_
    intro w7 hw7 zw7
    replace bel := bel.step hw7
    replace k4 := k4.step hw7
    replace k5 := k5.step hw7
    replace k9 := k9.step hw7
    have zbel := bel.size
    have zlt := k9.lt
    refine Zd (fun w hG => Runs.loadW rfl rfl Tryz.underlying105 rfl (k5.step hG) (m := 2) (by kernel_rfl) rfl) ?_
    refine Zd (fun w hG => Runs.loadW rfl rfl Tryz.underlying25 rfl (k9.step hG) (m := 4) (by kernel_rfl) rfl) ?_
    refine Zdm ?_
    refine Zd (fun w hG => Runs.addI rfl rfl rfl (by omega) (by omega)) ?_
    refine Dr.callV rfl (fun w => Ze Tryz.func57) rfl (fun w hG => hrec w (bel.step hG)) ?_
    refine Dr.callV rfl (fun w => Ze Tryz.func103) rfl (fun w hG => with_any s (szU x (at_ + 1)) w hs.1 hs.2 hxs.1 hxs.2) ?_
    refine Dr.nil ?_
    refine FinX.done (F' := [(1, _), (4, _), (5, _), (9, _), (26, _), (27, _), (28, _), (29, _), (38, _), (45, _)]) rfl ⟨rfl, rfl, rfl, rfl, rfl, rfl, rfl, rfl, rfl, rfl, trivial⟩ ?_
    intro w8 hw8 fw8
    replace bel := bel.step hw8
    replace k4 := k4.step hw8
    replace k5 := k5.step hw8
    replace k9 := k9.step hw8
    refine Zo 2 k5 ?_
    intro w9 pw9
    replace bel := bel.put k5 pw9 e5
    replace k4 := k4.put pw9 (by omega)
    replace k5 := pw9.blk
    refine Zk9 1 4 5 9 26 27 28 29 38 (Post.block_normal (Ztr ?_))
    refine Za_ ?_
    refine Zm ?_
    refine Zk9 1 4 5 9 26 27 28 29 38 ?_
    exact Post.round (k + 1, withS s (szU x (at_ + 1))) ⟨rfl, rfl, rfl, rfl, rfl, rfl, trivial⟩ ⟨by simp only; omega, hws, hsz, bel, k4, k5⟩ (by simp only; omega)
  ·obtain rfl : k = t.terms.length := by omega
   rw [List.drop_of_length_le (Nat.le_refl _), szV_nil] at hsz
   refine Cd.exit (Post.then_exit (Post.round_exit (Post.block_exit (Ztq ?_))))
   refine Zv (Runs.loadW rfl rfl Tryz.underlying105 rfl k5 (m := 2) (by kernel_rfl) rfl) ?_
   refine Zo 2 k4 ?_
   intro w5 pw5
   replace bel := bel.put k4 pw5 e4
   replace k5 := k5.put pw5 (by omega)
   replace k4 := pw5.blk
   refine Zk7 1 4 5 26 27 28 29 (Zt (Cd.ret ?_))
   refine Post.endC rfl rfl k4 Tryz.underlying105 rfl (m := 2) (by kernel_rfl) rfl (.inl rfl) ?_
   rw [← hsz]
   exact ⟨rfl, bel⟩
end Go.Proofs.YtaamkfajnpobfaaGreat

namespace Go.Proofs.YtaamkfajnpobfaaGreat
open Go.RowKit

theorem indexT_any (g : Nat) (cp : List Value) (p : Tm → Bool) (B : Nat) (A : Option Addr) (c : Nat) (l : List Tm) (w : World) (h60 : l.length ≤ 1000) (hv : TmAt w B l A) (hB : B ≤ w.heap.size)
  (eg : ∀ args w, (callFunc g args).run Tryz.prog w = .ok (.enter g args) w) (hp : ∀ x ∈ l, ∀ v W, Below w.heap.size w W → RepB W B x v → Calls Tryz.prog g ([] ++ [v] ++ cp).toArray W fun en w' => en = .returned (.bool (p x)) ∧ Grow W w') :
  Calls Tryz.prog 141 #[.slice A l.length c, .func (.func g) #[] cp.toArray] w fun en w' => en = .returned (.int .i64 (idxP p l)) ∧ Grow w w' := by
 have bel := Below.refl w.heap.size w
 obtain ⟨n, hn⟩ : ∃ n, n = l.length := ⟨_, rfl⟩
 rw [← hn] at h60 ⊢
 refine Zs 19 Tryz.func141 ?_
 refine Zsr ?_
 refine Za ?_
 refine Zk3 0 1 4 (Zts (Zsr ?_))
 refine Zm ?_
 refine Zv (Runs.len rfl rfl Tryz.underlying23) ?_
 refine Zm ?_
 refine Zk5 0 1 4 7 8 (Zt (Cd.block ?_))
 refine Cd.loop (σ := Nat) (fun k => [(0, .slice A n c), (1, .func (.func g) #[] cp.toArray), (7, .int .i64 (n : Int)), (8, .int .i64 (k : Int))])
  (fun k wr => k ≤ n ∧ (∀ y ∈ l.take k, p y = false) ∧ Below w.heap.size w wr) (fun k => n - k) 0 ⟨Nat.zero_le _, by simp, bel⟩ ⟨rfl, rfl, rfl, rfl, trivial⟩ ?_
 clear bel
 rintro k wr ⟨hk, hno, bel⟩
 refine Zsr ?_
 refine Zv (Runs.lss rfl rfl rfl) ?_
 refine Zk5 0 1 7 8 9 (Zts ?_)
 refine Cd.condD rfl (fun hc => ?_) (fun hc => ?_)
 ·obtain ⟨x, hx⟩ : ∃ x, l[k]? = some x := ⟨_, List.getElem?_eq_getElem (show k < l.length by omega)⟩
  obtain ⟨ad, A1, A2, c1, c2, rfl, hbl, hrx, hc⟩ := hv k x hx
  have hc := fun j u hj => ((bel.mono hB).cell (p := (ad.add (k * 4)).add j) (by rw [block_of_add, block_of_add]; exact hbl)).trans (hc j u hj)
  have htk : l.take (k + 1) = l.take k ++ [x] := by rw [List.take_add_one, hx]; rfl
  refine Cd.skip (Zts (Cd.block (Zsr ?_)))
  refine Zm ?_
  refine Za ?_
  refine Zk6 0 1 5 7 8 9 (Ztq ?_)
  refine Zm ?_
  refine Zm ?_
  refine Zm ?_
  refine Zv (Runs.indexN rfl rfl rfl Tryz.underlying23 (s := 4) (by kernel_rfl) (j := k) rfl (by omega)) ?_
  refine Zv (Runs.loadF (ps := [.int .i64 x.op, .string (strOf x.name), .slice A1 x.exprs.length c1, .slice A2 x.terms.length c2]) rfl rfl Tryz.underlying25 rfl (m := 4) (by kernel_rfl) rfl hc) ?_
  refine Seq.call (Enters.value (first := []) (cap := cp) rfl rfl rfl eg) rfl rfl rfl (hp x (List.mem_of_getElem? hx) _ _ bel (hrx.below (bel.mono hB))) ?_
  rintro en w5 ⟨rfl, hb5⟩
  refine ⟨_, rfl, ?_⟩
  replace bel := bel.step hb5
  refine Zk7 0 1 5 7 8 9 16 (Zt ?_)
  refine Cd.cond rfl (fun h => ?_) (fun h => ?_)
  ·skip
   refine Zsr ?_
   refine Zm ?_
   refine Za ?_
   refine Zk8 0 1 4 5 7 8 9 16 (Zt (Cd.ret (Post.block_ret (Post.then_ret (Post.round_ret (Post.block_ret (Post.then_ret ?_)))))))
   refine Post.end1 rfl rfl (.inl rfl) ?_
   exact ⟨ret1 (int_eq (idxP_some hx h hno).symm), bel⟩
  ·skip
   refine Cd.skip (Post.block_normal (Ztr ?_))
   refine Za_ ?_
   refine Zm ?_
   refine Zk7 0 1 5 7 8 9 16 ?_
   refine Post.round (k + 1) ⟨rfl, rfl, rfl, rfl, trivial⟩ ⟨by omega, fun y hy => ?_, bel⟩ (by omega)
   rw [htk] at hy
   rcases List.mem_append.1 hy with hy | hy
   ·exact hno y hy
   ·simp at hy; subst hy; exact h
 ·obtain rfl : k = n := by omega
  rw [List.take_of_length_le (by omega)] at hno
  refine Cd.exit (Post.then_exit (Post.round_exit (Post.block_exit (Ztq ?_))))
  refine Za ?_
  refine Zk6 0 1 4 7 8 9 (Zt (Cd.ret ?_))
  refine Post.end1 rfl rfl (.inl rfl) ?_
  exact ⟨ret1 (int_eq (idxP_none hno).symm), bel⟩
theorem containsT_any (g : Nat) (cp : List Value) (p : Tm → Bool) (B : Nat) (A : Option Addr) (c : Nat) (l : List Tm) (w : World) (h60 : l.length ≤ 1000) (hv : TmAt w B l A) (hB : B ≤ w.heap.size)
  (eg : ∀ args w, (callFunc g args).run Tryz.prog w = .ok (.enter g args) w) (hp : ∀ x ∈ l, ∀ v W, Below w.heap.size w W → RepB W B x v → Calls Tryz.prog g ([] ++ [v] ++ cp).toArray W fun en w' => en = .returned (.bool (p x)) ∧ Grow W w') :
  Calls Tryz.prog 108 #[.slice A l.length c, .func (.func g) #[] cp.toArray] w fun en w' => en = .returned (.bool (l.any p)) ∧ Grow w w' := by
 have bel := Below.refl w.heap.size w
 have hc := fun W (hb : Below w.heap.size w W) => indexT_any g cp p B A c l W h60 (hv.below (hb.mono hB)) (Nat.le_trans hB hb.size) eg (fun x hx v W2 hb2 hr => hp x hx v W2 (hb.trans (hb2.mono hb.size)) hr)
 have hany := idxP_any p l
 obtain ⟨n, hn⟩ : ∃ n, n = l.length := ⟨_, rfl⟩
 rw [← hn] at hc ⊢
 refine Zs 9 Tryz.func108 ?_
 refine Zsr ?_
 refine Za ?_
 refine Zk3 0 1 4 (Ztq ?_)
 refine Zm ?_
 refine Zm ?_
 refine Zc (Ze Tryz.func141) (hc _ bel) ?_
 rintro en w5 ⟨rfl, hb5⟩
 refine ⟨_, rfl, ?_⟩
 replace bel := bel.step hb5
 refine Zv (Runs.geq rfl rfl rfl) ?_
 refine Za ?_
 refine Zk3 0 1 4 (Zt (Cd.ret ?_))
 refine Post.end1 rfl rfl (.inl rfl) ?_
 exact ⟨ret1 (bool_eq hany), bel⟩
def arT (op : Int) : Int × Int := if op = 1 ∨ op = 2 then (0, 0) else if op = 3 then (0, 1) else if op = 4 ∨ op = 5 then (0, 2) else if op = 6 ∨ op = 7 ∨ op = 8 ∨ op = 9 then (1, 1) else (-1, -1)
theorem arities_any (op : Int) (w : World) : Calls Tryz.prog 104 #[.int .i64 op] w fun e w' => e = .returned (.tuple #[.int .i64 (arT op).1, .int .i64 (arT op).2]) ∧ Grow w w' := by
 have bel := Below.refl w.heap.size w
 refine Zs 18 Tryz.func104 ?_
 by_cases h1 : op = 1
 ·subst h1
  refine Zsr ?_
  refine Za ?_
  refine Za ?_
  refine Zk3 0 2 3 (Zts (Zsr ?_))
  refine Zm ?_
  refine Zk4 0 2 3 4 (Zt (Cd.block (Cd.seq (Zsr ?_))))
  refine Zv (Runs.eqlI rfl rfl rfl) ?_
  refine Za ?_
  refine Zk5 0 2 3 4 5 (Zt ?_)
  refine Cd.condT rfl rfl ?_
  refine Cd.skip (Zt ?_)
  refine Cd.condT rfl rfl ?_
  refine Zsr ?_
  refine Za ?_
  refine Za ?_
  refine Zk5 0 2 3 4 5 (Zt (Cd.ret (Post.block_ret (Post.then_ret ?_))))
  refine Post.end2 rfl rfl rfl (.inl rfl) ?_
  exact ⟨rfl, bel⟩
 ·skip
  by_cases h2 : op = 2
  ·subst h2
   refine Zsr ?_
   refine Za ?_
   refine Za ?_
   refine Zk3 0 2 3 (Zts (Zsr ?_))
   refine Zm ?_
   refine Zk4 0 2 3 4 (Zt (Cd.block (Cd.seq (Zsr ?_))))
   refine Zv (Runs.eqlI rfl rfl rfl) ?_
   refine Za ?_
   refine Zk5 0 2 3 4 5 (Zt ?_)
   refine Cd.condF rfl rfl ?_
   refine Zr ?_
   refine Zv (Runs.eqlI rfl rfl rfl) ?_
   refine Za ?_
   refine Zk5 0 2 3 4 5 (Zt ?_)
   refine Cd.condT rfl rfl ?_
   refine Zsr ?_
   refine Za ?_
   refine Za ?_
   refine Zk5 0 2 3 4 5 (Zt (Cd.ret (Post.block_ret (Post.then_ret ?_))))
   refine Post.end2 rfl rfl rfl (.inl rfl) ?_
   exact ⟨rfl, bel⟩
  ·skip
   by_cases h3 : op = 3
   ·subst h3
    refine Zsr ?_
    refine Za ?_
    refine Za ?_
    refine Zk3 0 2 3 (Zts (Zsr ?_))
    refine Zm ?_
    refine Zk4 0 2 3 4 (Zt (Cd.block (Cd.seq (Zsr ?_))))
    refine Zv (Runs.eqlI rfl rfl rfl) ?_
    refine Za ?_
    refine Zk5 0 2 3 4 5 (Zt ?_)
    refine Cd.condF rfl rfl ?_
    refine Zr ?_
    refine Zv (Runs.eqlI rfl rfl rfl) ?_
    refine Za ?_
    refine Zk5 0 2 3 4 5 (Zt ?_)
    refine Cd.condF rfl rfl ?_
    refine Zsr ?_
    refine Zv (Runs.eqlI rfl rfl rfl) ?_
    refine Za ?_
    refine Zk6 0 2 3 4 5 8 (Zt ?_)
    refine Cd.condT rfl rfl ?_
    refine Zsr ?_
    refine Za ?_
    refine Za ?_
    refine Zk6 0 2 3 4 5 8 (Zt (Cd.ret (Post.block_ret (Post.then_ret ?_))))
    refine Post.end2 rfl rfl rfl (.inl rfl) ?_
    exact ⟨rfl, bel⟩
   ·skip
    by_cases h4 : op = 4
    ·subst h4
     refine Zsr ?_
     refine Za ?_
     refine Za ?_
     refine Zk3 0 2 3 (Zts (Zsr ?_))
     refine Zm ?_
     refine Zk4 0 2 3 4 (Zt (Cd.block (Cd.seq (Zsr ?_))))
     refine Zv (Runs.eqlI rfl rfl rfl) ?_
     refine Za ?_
     refine Zk5 0 2 3 4 5 (Zt ?_)
     refine Cd.condF rfl rfl ?_
     refine Zr ?_
     refine Zv (Runs.eqlI rfl rfl rfl) ?_
     refine Za ?_
     refine Zk5 0 2 3 4 5 (Zt ?_)
     refine Cd.condF rfl rfl ?_
     refine Zsr ?_
     refine Zv (Runs.eqlI rfl rfl rfl) ?_
     refine Za ?_
     refine Zk6 0 2 3 4 5 8 (Zt ?_)
     refine Cd.condF rfl rfl ?_
     refine Cd.seq (Zsr ?_)
     refine Zv (Runs.eqlI rfl rfl rfl) ?_
     refine Za ?_
     refine Zk7 0 2 3 4 5 8 10 (Zt ?_)
     refine Cd.condT rfl rfl ?_
     refine Cd.skip (Zt ?_)
     refine Cd.condT rfl rfl ?_
     refine Zsr ?_
     refine Za ?_
     refine Za ?_
     refine Zk7 0 2 3 4 5 8 10 (Zt (Cd.ret (Post.block_ret (Post.then_ret ?_))))
     refine Post.end2 rfl rfl rfl (.inl rfl) ?_
     exact ⟨rfl, bel⟩
    ·skip
     by_cases h5 : op = 5
     ·subst h5
      refine Zsr ?_
      refine Za ?_
      refine Za ?_
      refine Zk3 0 2 3 (Zts (Zsr ?_))
      refine Zm ?_
      refine Zk4 0 2 3 4 (Zt (Cd.block (Cd.seq (Zsr ?_))))
      refine Zv (Runs.eqlI rfl rfl rfl) ?_
      refine Za ?_
      refine Zk5 0 2 3 4 5 (Zt ?_)
      refine Cd.condF rfl rfl ?_
      refine Zr ?_
      refine Zv (Runs.eqlI rfl rfl rfl) ?_
      refine Za ?_
      refine Zk5 0 2 3 4 5 (Zt ?_)
      refine Cd.condF rfl rfl ?_
      refine Zsr ?_
      refine Zv (Runs.eqlI rfl rfl rfl) ?_
      refine Za ?_
      refine Zk6 0 2 3 4 5 8 (Zt ?_)
      refine Cd.condF rfl rfl ?_
      refine Cd.seq (Zsr ?_)
      refine Zv (Runs.eqlI rfl rfl rfl) ?_
      refine Za ?_
      refine Zk7 0 2 3 4 5 8 10 (Zt ?_)
      refine Cd.condF rfl rfl ?_
      refine Zr ?_
      refine Zv (Runs.eqlI rfl rfl rfl) ?_
      refine Za ?_
      refine Zk7 0 2 3 4 5 8 10 (Zt ?_)
      refine Cd.condT rfl rfl ?_
      refine Zsr ?_
      refine Za ?_
      refine Za ?_
      refine Zk7 0 2 3 4 5 8 10 (Zt (Cd.ret (Post.block_ret (Post.then_ret ?_))))
      refine Post.end2 rfl rfl rfl (.inl rfl) ?_
      exact ⟨rfl, bel⟩
     ·skip
      by_cases h6 : op = 6
      ·subst h6
       refine Zsr ?_
       refine Za ?_
       refine Za ?_
       refine Zk3 0 2 3 (Zts (Zsr ?_))
       refine Zm ?_
       refine Zk4 0 2 3 4 (Zt (Cd.block (Cd.seq (Zsr ?_))))
       refine Zv (Runs.eqlI rfl rfl rfl) ?_
       refine Za ?_
       refine Zk5 0 2 3 4 5 (Zt ?_)
       refine Cd.condF rfl rfl ?_
       refine Zr ?_
       refine Zv (Runs.eqlI rfl rfl rfl) ?_
       refine Za ?_
       refine Zk5 0 2 3 4 5 (Zt ?_)
       refine Cd.condF rfl rfl ?_
       refine Zsr ?_
       refine Zv (Runs.eqlI rfl rfl rfl) ?_
       refine Za ?_
       refine Zk6 0 2 3 4 5 8 (Zt ?_)
       refine Cd.condF rfl rfl ?_
       refine Cd.seq (Zsr ?_)
       refine Zv (Runs.eqlI rfl rfl rfl) ?_
       refine Za ?_
       refine Zk7 0 2 3 4 5 8 10 (Zt ?_)
       refine Cd.condF rfl rfl ?_
       refine Zr ?_
       refine Zv (Runs.eqlI rfl rfl rfl) ?_
       refine Za ?_
       refine Zk7 0 2 3 4 5 8 10 (Zt ?_)
       refine Cd.condF rfl rfl ?_
       refine Cd.seq (Zsr ?_)
       refine Zv (Runs.eqlI rfl rfl rfl) ?_
       refine Za ?_
       refine Zk8 0 2 3 4 5 8 10 13 (Zt ?_)
       refine Cd.condT rfl rfl ?_
       refine Cd.skip (Zt ?_)
       refine Cd.condT rfl rfl ?_
       refine Zsr ?_
       refine Za ?_
       refine Za ?_
       refine Zk8 0 2 3 4 5 8 10 13 (Zt (Cd.ret (Post.block_ret (Post.then_ret ?_))))
       refine Post.end2 rfl rfl rfl (.inl rfl) ?_
       exact ⟨rfl, bel⟩
      ·skip
       by_cases h7 : op = 7
       ·subst h7
        refine Zsr ?_
        refine Za ?_
        refine Za ?_
        refine Zk3 0 2 3 (Zts (Zsr ?_))
        refine Zm ?_
        refine Zk4 0 2 3 4 (Zt (Cd.block (Cd.seq (Zsr ?_))))
        refine Zv (Runs.eqlI rfl rfl rfl) ?_
        refine Za ?_
        refine Zk5 0 2 3 4 5 (Zt ?_)
        refine Cd.condF rfl rfl ?_
        refine Zr ?_
        refine Zv (Runs.eqlI rfl rfl rfl) ?_
        refine Za ?_
        refine Zk5 0 2 3 4 5 (Zt ?_)
        refine Cd.condF rfl rfl ?_
        refine Zsr ?_
        refine Zv (Runs.eqlI rfl rfl rfl) ?_
        refine Za ?_
        refine Zk6 0 2 3 4 5 8 (Zt ?_)
        refine Cd.condF rfl rfl ?_
        refine Cd.seq (Zsr ?_)
        refine Zv (Runs.eqlI rfl rfl rfl) ?_
        refine Za ?_
        refine Zk7 0 2 3 4 5 8 10 (Zt ?_)
        refine Cd.condF rfl rfl ?_
        refine Zr ?_
        refine Zv (Runs.eqlI rfl rfl rfl) ?_
        refine Za ?_
        refine Zk7 0 2 3 4 5 8 10 (Zt ?_)
        refine Cd.condF rfl rfl ?_
        refine Cd.seq (Zsr ?_)
        refine Zv (Runs.eqlI rfl rfl rfl) ?_
        refine Za ?_
        refine Zk8 0 2 3 4 5 8 10 13 (Zt ?_)
        refine Cd.condF rfl rfl ?_
        refine Zsr ?_
        refine Zv (Runs.eqlI rfl rfl rfl) ?_
        refine Za ?_
        refine Zk8 0 2 3 4 5 8 10 13 (Zt ?_)
        refine Cd.condT rfl rfl ?_
        refine Cd.skip (Zt ?_)
        refine Cd.condT rfl rfl ?_
        refine Zsr ?_
        refine Za ?_
        refine Za ?_
        refine Zk8 0 2 3 4 5 8 10 13 (Zt (Cd.ret (Post.block_ret (Post.then_ret ?_))))
        refine Post.end2 rfl rfl rfl (.inl rfl) ?_
        exact ⟨rfl, bel⟩
       ·skip
        by_cases h8 : op = 8
        ·subst h8
         refine Zsr ?_
         refine Za ?_
         refine Za ?_
         refine Zk3 0 2 3 (Zts (Zsr ?_))
         refine Zm ?_
         refine Zk4 0 2 3 4 (Zt (Cd.block (Cd.seq (Zsr ?_))))
         refine Zv (Runs.eqlI rfl rfl rfl) ?_
         refine Za ?_
         refine Zk5 0 2 3 4 5 (Zt ?_)
         refine Cd.condF rfl rfl ?_
         refine Zr ?_
         refine Zv (Runs.eqlI rfl rfl rfl) ?_
         refine Za ?_
         refine Zk5 0 2 3 4 5 (Zt ?_)
         refine Cd.condF rfl rfl ?_
         refine Zsr ?_
         refine Zv (Runs.eqlI rfl rfl rfl) ?_
         refine Za ?_
         refine Zk6 0 2 3 4 5 8 (Zt ?_)
         refine Cd.condF rfl rfl ?_
         refine Cd.seq (Zsr ?_)
         refine Zv (Runs.eqlI rfl rfl rfl) ?_
         refine Za ?_
         refine Zk7 0 2 3 4 5 8 10 (Zt ?_)
         refine Cd.condF rfl rfl ?_
         refine Zr ?_
         refine Zv (Runs.eqlI rfl rfl rfl) ?_
         refine Za ?_
         refine Zk7 0 2 3 4 5 8 10 (Zt ?_)
         refine Cd.condF rfl rfl ?_
         refine Cd.seq (Zsr ?_)
         refine Zv (Runs.eqlI rfl rfl rfl) ?_
         refine Za ?_
         refine Zk8 0 2 3 4 5 8 10 13 (Zt ?_)
         refine Cd.condF rfl rfl ?_
         refine Zsr ?_
         refine Zv (Runs.eqlI rfl rfl rfl) ?_
         refine Za ?_
         refine Zk8 0 2 3 4 5 8 10 13 (Zt ?_)
         refine Cd.condF rfl rfl ?_
         refine Zsr ?_
         refine Zv (Runs.eqlI rfl rfl rfl) ?_
         refine Za ?_
         refine Zk8 0 2 3 4 5 8 10 13 (Zt ?_)
         refine Cd.condT rfl rfl ?_
         refine Cd.skip (Zt ?_)
         refine Cd.condT rfl rfl ?_
         refine Zsr ?_
         refine Za ?_
         refine Za ?_
         refine Zk8 0 2 3 4 5 8 10 13 (Zt (Cd.ret (Post.block_ret (Post.then_ret ?_))))
         refine Post.end2 rfl rfl rfl (.inl rfl) ?_
         exact ⟨rfl, bel⟩
        ·skip
         by_cases h9 : op = 9
         ·subst h9
          refine Zsr ?_
          refine Za ?_
          refine Za ?_
          refine Zk3 0 2 3 (Zts (Zsr ?_))
          refine Zm ?_
          refine Zk4 0 2 3 4 (Zt (Cd.block (Cd.seq (Zsr ?_))))
          refine Zv (Runs.eqlI rfl rfl rfl) ?_
          refine Za ?_
          refine Zk5 0 2 3 4 5 (Zt ?_)
          refine Cd.condF rfl rfl ?_
          refine Zr ?_
          refine Zv (Runs.eqlI rfl rfl rfl) ?_
          refine Za ?_
          refine Zk5 0 2 3 4 5 (Zt ?_)
          refine Cd.condF rfl rfl ?_
          refine Zsr ?_
          refine Zv (Runs.eqlI rfl rfl rfl) ?_
          refine Za ?_
          refine Zk6 0 2 3 4 5 8 (Zt ?_)
          refine Cd.condF rfl rfl ?_
          refine Cd.seq (Zsr ?_)
          refine Zv (Runs.eqlI rfl rfl rfl) ?_
          refine Za ?_
          refine Zk7 0 2 3 4 5 8 10 (Zt ?_)
          refine Cd.condF rfl rfl ?_
          refine Zr ?_
          refine Zv (Runs.eqlI rfl rfl rfl) ?_
          refine Za ?_
          refine Zk7 0 2 3 4 5 8 10 (Zt ?_)
          refine Cd.condF rfl rfl ?_
          refine Cd.seq (Zsr ?_)
          refine Zv (Runs.eqlI rfl rfl rfl) ?_
          refine Za ?_
          refine Zk8 0 2 3 4 5 8 10 13 (Zt ?_)
          refine Cd.condF rfl rfl ?_
          refine Zsr ?_
          refine Zv (Runs.eqlI rfl rfl rfl) ?_
          refine Za ?_
          refine Zk8 0 2 3 4 5 8 10 13 (Zt ?_)
          refine Cd.condF rfl rfl ?_
          refine Zsr ?_
          refine Zv (Runs.eqlI rfl rfl rfl) ?_
          refine Za ?_
          refine Zk8 0 2 3 4 5 8 10 13 (Zt ?_)
          refine Cd.condF rfl rfl ?_
          refine Zr ?_
          refine Zv (Runs.eqlI rfl rfl rfl) ?_
          refine Za ?_
          refine Zk8 0 2 3 4 5 8 10 13 (Zt ?_)
          refine Cd.condT rfl rfl ?_
          refine Zsr ?_
          refine Za ?_
          refine Za ?_
          refine Zk8 0 2 3 4 5 8 10 13 (Zt (Cd.ret (Post.block_ret (Post.then_ret ?_))))
          refine Post.end2 rfl rfl rfl (.inl rfl) ?_
          exact ⟨rfl, bel⟩
         ·skip
          refine Zsr ?_
          refine Za ?_
          refine Za ?_
          refine Zk3 0 2 3 (Zts (Zsr ?_))
          refine Zm ?_
          refine Zk4 0 2 3 4 (Zt (Cd.block (Cd.seq (Zsr ?_))))
          refine Zv (Runs.eqlI rfl rfl rfl) ?_
          refine Za ?_
          refine Zk5 0 2 3 4 5 (Zt ?_)
          refine Cd.condF rfl (decide_eq_false h1) ?_
          refine Zr ?_
          refine Zv (Runs.eqlI rfl rfl rfl) ?_
          refine Za ?_
          refine Zk5 0 2 3 4 5 (Zt ?_)
          refine Cd.condF rfl (decide_eq_false h2) ?_
          refine Zsr ?_
          refine Zv (Runs.eqlI rfl rfl rfl) ?_
          refine Za ?_
          refine Zk6 0 2 3 4 5 8 (Zt ?_)
          refine Cd.condF rfl (decide_eq_false h3) ?_
          refine Cd.seq (Zsr ?_)
          refine Zv (Runs.eqlI rfl rfl rfl) ?_
          refine Za ?_
          refine Zk7 0 2 3 4 5 8 10 (Zt ?_)
          refine Cd.condF rfl (decide_eq_false h4) ?_
          refine Zr ?_
          refine Zv (Runs.eqlI rfl rfl rfl) ?_
          refine Za ?_
          refine Zk7 0 2 3 4 5 8 10 (Zt ?_)
          refine Cd.condF rfl (decide_eq_false h5) ?_
          refine Cd.seq (Zsr ?_)
          refine Zv (Runs.eqlI rfl rfl rfl) ?_
          refine Za ?_
          refine Zk8 0 2 3 4 5 8 10 13 (Zt ?_)
          refine Cd.condF rfl (decide_eq_false h6) ?_
          refine Zsr ?_
          refine Zv (Runs.eqlI rfl rfl rfl) ?_
          refine Za ?_
          refine Zk8 0 2 3 4 5 8 10 13 (Zt ?_)
          refine Cd.condF rfl (decide_eq_false h7) ?_
          refine Zsr ?_
          refine Zv (Runs.eqlI rfl rfl rfl) ?_
          refine Za ?_
          refine Zk8 0 2 3 4 5 8 10 13 (Zt ?_)
          refine Cd.condF rfl (decide_eq_false h8) ?_
          refine Zr ?_
          refine Zv (Runs.eqlI rfl rfl rfl) ?_
          refine Za ?_
          refine Zk8 0 2 3 4 5 8 10 13 (Zt ?_)
          refine Cd.condF rfl (decide_eq_false h9) ?_
          refine Cd.skip (Post.block_normal (Ztq ?_))
          refine Za ?_
          refine Za ?_
          refine Zk8 0 2 3 4 5 8 10 13 (Zt (Cd.ret ?_))
          refine Post.end2 rfl rfl rfl (.inl rfl) ?_
          have hb : arT op = (-1, -1) := by unfold arT; rw [if_neg (by omega), if_neg h3, if_neg (by omega), if_neg (by omega)]
          rw [hb]
          exact ⟨rfl, bel⟩
def headTB (op : Int) (nm : List Nat) (n m : Nat) : Bool := decide (arT op = ((n : Int), (m : Int))) && !(decide (op = 2) && !freeB nm) && !(decide (op ≠ 2) && decide (nm ≠ []))
mutual
def builtT : Tm → Bool
 | .mk op nm es l => headTB op nm es.length l.length && es.all builtB && builtTL l
def builtTL : List Tm → Bool
 | [] => true
 | e :: r => builtT e && builtTL r
end
theorem builtTL_all : ∀ l, builtTL l = l.all builtT
 | [] => by rw [builtTL]; rfl
 | e :: r => by rw [builtTL, builtTL_all r]; rfl
theorem builtT_eq (t : Tm) : builtT t = (headTB t.op t.name t.exprs.length t.terms.length && t.exprs.all builtB && t.terms.all builtT) := by
 cases t; rw [builtT, builtTL_all]; rfl
theorem eg_tbuilt1 : ∀ args w, (callFunc 107 args).run Tryz.prog w = .ok (.enter 107 args) w := fun args w => run_enter Tryz.func107 (by kernel_rfl) rfl args w
theorem eg_tbuilt2 : ∀ args w, (callFunc 109 args).run Tryz.prog w = .ok (.enter 109 args) w := fun args w => run_enter Tryz.func109 (by kernel_rfl) rfl args w
theorem built_any (N : Nat) : ∀ (t : Tm) (B : Nat) (v : Value) (w : World), t.nodes ≤ N → RepB w B t v → B ≤ w.heap.size → Calls Tryz.prog 59 #[v] w fun en w' => en = .returned (.bool (builtT t)) ∧ Grow w w' := by
 induction N with
 | zero => intro t B v w hN; have := t.nodes_pos; omega
 | succ N ih =>
 intro t B v w hN hrep hB
 obtain ⟨A, c, A', c', rfl, hv⟩ := hrep.open
 have bel := Below.refl w.heap.size w
 have hnm := hv.name
 have hnl := hv.nlen
 have h60 := hv.h60
 have h60' := hv.h60'
 have hbt := builtT_eq t
 have hdum : RepV w B (.mk 1 0 [] t.exprs) A c := ⟨hv.h60, by show I64 1; unfold I64; omega, by show I64 0; unfold I64; omega, fun d hd => (by cases hd), by show (0 : Nat) ≤ _; omega, fun i x hx => hv.expr i x hx⟩
 have hcl := fun W (hb : Below w.heap.size w W) => containsE_any 107 [] (fun x => !builtB x) B A c (.mk 1 0 [] t.exprs) W (hdum.below (hb.mono hB)) (Nat.le_trans hB hb.size) eg_tbuilt1 (fun x hx v W2 hb2 hr => by
  have hs2 := Nat.le_trans hB (Nat.le_trans hb.size hb2.size)
  have hrec := fun W3 (hb3 : Below W2.heap.size W2 W3) => builtExpr_any x.nodes x B v W3 (Nat.le_refl _) (hr.below (hb3.mono hs2)) (Nat.le_trans hs2 hb3.size)
  obtain ⟨Ax, cx, rfl, -⟩ := hr.open
  have bel := Below.refl W2.heap.size W2
  generalize builtB x = q at *
  refine Zs 6 Tryz.func107 ?_
  refine Zsr ?_
  refine Seq.box rfl rfl rfl rfl rfl ?_
  intro g1 w1 n1
  have e1 := Nat.le_trans bel.size n1.ge
  replace bel := bel.step n1.below
  have k1 := n1.blk
  refine Za ?_
  refine Zk3 0 1 2 (Ztq ?_)
  refine Zv (Runs.loadW rfl rfl Tryz.underlying35 rfl k1 (m := 4) (by kernel_rfl) rfl) ?_
  refine Zc (Ze Tryz.func74) (hrec _ bel) ?_
  rintro en w5 ⟨rfl, hb5⟩
  refine ⟨_, rfl, ?_⟩
  replace bel := bel.step hb5
  replace k1 := k1.step hb5
  refine Zv (Runs.not rfl rfl) ?_
  refine Za ?_
  refine Zk3 0 1 2 (Zt (Cd.ret ?_))
  refine Post.end1 rfl rfl (.inl rfl) ?_
  exact ⟨rfl, bel⟩)
 have hcl2 := fun W (hb : Below w.heap.size w W) => containsT_any 109 [] (fun x => !builtT x) B A' c' t.terms W hv.h60' (hv.term.below (hb.mono hB)) (Nat.le_trans hB hb.size) eg_tbuilt2 (fun x hx v W2 hb2 hr => by
  have hxn := Tm.term_nodes hx
  have hs2 := Nat.le_trans hB (Nat.le_trans hb.size hb2.size)
  have hrec := fun W3 (hb3 : Below W2.heap.size W2 W3) => ih x B v W3 (by omega) (hr.below (hb3.mono hs2)) (Nat.le_trans hs2 hb3.size)
  obtain ⟨A1, c1, A2, c2, rfl, -⟩ := hr.open
  have bel := Below.refl W2.heap.size W2
  generalize builtT x = q at *
  refine Zs 6 Tryz.func109 ?_
  refine Zsr ?_
  refine Seq.box rfl rfl rfl rfl rfl ?_
  intro g1 w1 n1
  have e1 := Nat.le_trans bel.size n1.ge
  replace bel := bel.step n1.below
  have k1 := n1.blk
  refine Za ?_
  refine Zk3 0 1 2 (Ztq ?_)
  refine Zv (Runs.loadW rfl rfl Tryz.underlying25 rfl k1 (m := 4) (by kernel_rfl) rfl) ?_
  refine Zc (Ze Tryz.func59) (hrec _ bel) ?_
  rintro en w5 ⟨rfl, hb5⟩
  refine ⟨_, rfl, ?_⟩
  replace bel := bel.step hb5
  replace k1 := k1.step hb5
  refine Zv (Runs.not rfl rfl) ?_
  refine Za ?_
  refine Zk3 0 1 2 (Zt (Cd.ret ?_))
  refine Post.end1 rfl rfl (.inl rfl) ?_
  exact ⟨rfl, bel⟩)
 replace hcl : ∀ W, Below w.heap.size w W → Calls Tryz.prog 106 #[.slice A t.exprs.length c, .func (.func 107) #[] #[]] W fun en w' => en = .returned (.bool (t.exprs.any fun x => !builtB x)) ∧ Grow W w' := hcl
 refine Zs 54 Tryz.func59 ?_
 refine Zsr ?_
 refine Seq.box rfl rfl rfl rfl rfl ?_
 intro g1 w1 n1
 have e1 := Nat.le_trans bel.size n1.ge
 replace bel := bel.step n1.below
 have k1 := n1.blk
 refine Za ?_
 refine Zk3 0 1 2 (Ztq ?_)
 refine Zf 0 Tryz.underlying25 ?_
 refine Zv (Runs.loadB rfl rfl Tryz.underlying3 rfl k1 rfl) ?_
 refine Zc (Ze Tryz.func104) (arities_any t.op _) ?_
 rintro en w5 ⟨rfl, hb5⟩
 refine ⟨_, rfl, ?_⟩
 replace bel := bel.step hb5
 replace k1 := k1.step hb5
 refine Zm ?_
 refine Zv (Runs.extract rfl rfl rfl) ?_
 refine Zv (Runs.extract rfl rfl rfl) ?_
 refine Za ?_
 refine Za ?_
 refine Zk5 0 1 2 3 4 (Zts (Zsr ?_))
 refine Zm ?_
 refine Zf 2 Tryz.underlying25 ?_
 refine Zv (Runs.loadB rfl rfl Tryz.underlying22 rfl k1 rfl) ?_
 refine Zv (Runs.len rfl rfl Tryz.underlying22) ?_
 refine Zv (Runs.neqI rfl rfl rfl) ?_
 refine Zm ?_
 refine SeqC.start ?_
 refine Zco (fun hcx => Runs.move rfl rfl) ?_
 refine SeqC.next rfl rfl rfl rfl rfl rfl rfl (fun hcx => Runs.fieldB 3 rfl rfl Tryz.underlying25 rfl (by kernel_rfl)) ?_
 refine SeqC.next rfl rfl rfl rfl rfl rfl rfl (fun hcx => Runs.loadB rfl rfl Tryz.underlying23 rfl k1 rfl) ?_
 refine SeqC.next rfl rfl rfl rfl rfl rfl rfl (fun hcx => Runs.len rfl rfl Tryz.underlying23) ?_
 refine SeqC.next rfl rfl rfl rfl rfl rfl rfl (fun hcx => Runs.neqI rfl rfl rfl) ?_
 refine SeqC.or rfl rfl rfl rfl rfl rfl rfl ?_
 refine Zm ?_
 refine SeqC.start ?_
 refine Zco (fun hcx => Runs.fieldB 0 rfl rfl Tryz.underlying25 rfl (by kernel_rfl)) ?_
 refine SeqC.next rfl rfl rfl rfl rfl rfl rfl (fun hcx => Runs.loadB rfl rfl Tryz.underlying3 rfl k1 rfl) ?_
 refine SeqC.next rfl rfl rfl rfl rfl rfl rfl (fun hcx => Runs.eqlI rfl rfl rfl) ?_
 refine SeqC.next rfl rfl rfl rfl rfl rfl rfl (fun hcx => Runs.move rfl rfl) ?_
 refine Zco (fun hcx => Runs.fieldB 1 rfl rfl Tryz.underlying25 rfl (by kernel_rfl)) ?_
 refine SeqC.next rfl rfl rfl rfl rfl rfl rfl (fun hcx => Runs.loadB rfl rfl Tryz.underlying9 rfl k1 rfl) ?_
 refine SeqC.nextC rfl rfl rfl rfl rfl rfl rfl (fun hcx => Ze Tryz.func105) (fun hcx => free_any t.name _ hnm hnl) ?_
 intro w2 hw2
 replace bel := bel.step hw2
 replace k1 := k1.step hw2
 refine SeqC.next rfl rfl rfl rfl rfl rfl rfl (fun hcx => Runs.not rfl rfl) ?_
 refine SeqC.andG rfl rfl rfl rfl rfl rfl rfl rfl rfl rfl rfl ?_
 refine SeqC.or rfl rfl rfl rfl rfl rfl rfl ?_
 refine Zm ?_
 refine SeqC.start ?_
 refine Zco (fun hcx => Runs.fieldB 0 rfl rfl Tryz.underlying25 rfl (by kernel_rfl)) ?_
 refine SeqC.next rfl rfl rfl rfl rfl rfl rfl (fun hcx => Runs.loadB rfl rfl Tryz.underlying3 rfl k1 rfl) ?_
 refine SeqC.next rfl rfl rfl rfl rfl rfl rfl (fun hcx => Runs.neqI rfl rfl rfl) ?_
 refine SeqC.next rfl rfl rfl rfl rfl rfl rfl (fun hcx => Runs.move rfl rfl) ?_
 refine Zco (fun hcx => Runs.fieldB 1 rfl rfl Tryz.underlying25 rfl (by kernel_rfl)) ?_
 refine SeqC.next rfl rfl rfl rfl rfl rfl rfl (fun hcx => Runs.loadB rfl rfl Tryz.underlying9 rfl k1 rfl) ?_
 refine SeqC.next rfl rfl rfl rfl rfl rfl rfl (fun hcx => Runs.neqL (a := t.name) (b := []) rfl rfl rfl hnm (by decide)) ?_
 refine SeqC.andG rfl rfl rfl rfl rfl rfl rfl rfl rfl rfl rfl ?_
 refine SeqC.or rfl rfl rfl rfl rfl rfl rfl ?_
 refine Zk6 0 1 2 3 4 43 (Zt ?_)
 refine Cd.cond rfl (fun h => ?_) (fun h => ?_)
 ·have hhead : headTB t.op t.name t.exprs.length t.terms.length = false := by
   cases hq : headTB t.op t.name t.exprs.length t.terms.length with
   | false => rfl
   | true =>
    exfalso
    unfold headTB at hq
    simp at hq h
    obtain ⟨⟨a, b⟩, c⟩ := hq
    rw [a] at h
    simp at h
    rcases h with ⟨x, y⟩ | ⟨x, y⟩
    ·rcases b with b | b
     ·exact b x
     ·rw [b] at y; cases y
    ·rcases c with c | c
     ·exact x c
     ·exact y c
  rw [hhead] at hbt
  refine Zsr ?_
  refine Za ?_
  refine Zk6 0 1 2 3 4 43 (Zt (Cd.ret (Post.then_ret ?_)))
  refine Post.end1 rfl rfl (.inl rfl) ?_
  rw [hbt]
  exact ⟨rfl, bel⟩
 ·have hhead : headTB t.op t.name t.exprs.length t.terms.length = true := by
   unfold headTB
   simp at h ⊢
   obtain ⟨⟨⟨a1, a2⟩, b⟩, c⟩ := h
   refine ⟨⟨Prod.ext a1 a2, ?_⟩, ?_⟩
   ·by_cases h2 : t.op = 2
    ·exact .inr (b h2)
    ·exact .inl h2
   ·by_cases h2 : t.op = 2
    ·exact .inl h2
    ·exact .inr (c h2)
  rw [hhead] at hbt
  refine Cd.skip (Ztq ?_)
  refine Zf 2 Tryz.underlying25 ?_
  refine Zv (Runs.loadB rfl rfl Tryz.underlying22 rfl k1 rfl) ?_
  refine Zc (Ze Tryz.func106) (hcl _ bel) ?_
  rintro en w6 ⟨rfl, hb6⟩
  refine ⟨_, rfl, ?_⟩
  replace bel := bel.step hb6
  replace k1 := k1.step hb6
  refine Zv (Runs.not rfl rfl) ?_
  refine Zm ?_
  refine SeqC.start ?_
  refine Zco (fun hcx => Runs.fieldB 3 rfl rfl Tryz.underlying25 rfl (by kernel_rfl)) ?_
  refine SeqC.next rfl rfl rfl rfl rfl rfl rfl (fun hcx => Runs.loadB rfl rfl Tryz.underlying23 rfl k1 rfl) ?_
  refine SeqC.nextC rfl rfl rfl rfl rfl rfl rfl (fun hcx => Ze Tryz.func108) (fun hcx => hcl2 _ bel) ?_
  intro w3 hw3
  replace bel := bel.step hw3
  replace k1 := k1.step hw3
  refine SeqC.next rfl rfl rfl rfl rfl rfl rfl (fun hcx => Runs.not rfl rfl) ?_
  refine SeqC.and rfl rfl rfl rfl rfl rfl rfl ?_
  refine Za ?_
  refine Zk6 0 1 2 3 4 43 (Zt (Cd.ret ?_))
  refine Post.end1 rfl rfl (.inl rfl) ?_
  refine ⟨ret1 (bool_eq ?_), bel⟩
  rw [hbt, List.all_eq_not_any_not, List.all_eq_not_any_not, Bool.true_and]
def rightT (t : Tm) : Bool := decide (t.nodes ≤ 200) && decide (t.depth ≤ 16) && builtT t
end Go.Proofs.YtaamkfajnpobfaaGreat

namespace Go.Proofs.YtaamkfajnpobfaaGreat
open Go.RowKit

end Go.Proofs.YtaamkfajnpobfaaGreat

namespace Go.Proofs.YtaamkfajnpobfaaGreat
open Go.RowKit

structure Kn where
 op : Int
 name : List Nat
 exprs : List Int
 terms : List Int
structure Kn.rng (x : Kn) : Prop where
 op : I64 x.op
 name : ∀ d ∈ x.name, d < 256
 nlen : x.name.length ≤ 9223372036854775807
def zMuch (t : Tm) : Int := (toldZ (t.nodes : Int) (t.depth : Int)).1
def zDeep (t : Tm) : Int := (toldZ (t.nodes : Int) (t.depth : Int)).2
def sumM : List Tm → Int
 | [] => 0
 | e :: r => zMuch e + sumM r
def maxM : List Tm → Int
 | [] => 0
 | e :: r => max (zDeep e) (maxM r)
def pickM (ts : List Tm) (ks : List Int) : List Tm := ks.filterMap fun k => if ts.length = 0 then none else ts[earl k ts.length]?
def knotT (es : List Ex) (ts : List Tm) (x : Kn) : Tm := .mk x.op x.name (pickK es (x.exprs.take 3)) (pickM ts (x.terms.take 4))
def addT (es : List Ex) (ts : List Tm) (x : Kn) : List Tm := ts ++ [knotT es ts x]
def termsOf (es : List Ex) (ks : List Kn) : List Tm := ks.foldl (addT es) []
def KnAt (w : World) (B : Nat) (A : Option Addr) (xs : List Kn) : Prop := ∀ i x, xs[i]? = some x → ∃ ad A1 A2 c1 c2, A = some ad ∧ ad.block < B ∧ Reads w B 1 A1 x.exprs.length (DI x.exprs) ∧ Reads w B 1 A2 x.terms.length (DI x.terms) ∧ ∀ (j : Nat) (u : Value), ([.int .i64 x.op, .string (strOf x.name), .slice A1 x.exprs.length c1, .slice A2 x.terms.length c2] : List Value)[j]? = some u → w.cell? ((ad.add (i * 4)).add j) = some u
theorem KnAt.below {w w' : World} {B : Nat} {A : Option Addr} {xs : List Kn} (h : KnAt w B A xs) (hb : Below B w w') : KnAt w' B A xs := fun i x hx => by
 obtain ⟨ad, A1, A2, c1, c2, e1, e2, e3, e3', e4⟩ := h i x hx
 exact ⟨ad, A1, A2, c1, c2, e1, e2, e3.below hb, e3'.below hb, fun j u hu => (hb.cell (by rw [block_of_add, block_of_add]; exact e2)).trans (e4 j u hu)⟩
structure ForestT (w : World) (T : List Nat) (ts : List Tm) (vs : List Value) : Prop where
 len : vs.length = ts.length
 lt : ∀ b ∈ T, b < w.heap.size
 rep : ∀ (i : Nat) (e : Tm) (v : Value), ts[i]? = some e → vs[i]? = some v → RepT w (· ∈ T) e v
section
variable {w w' : World} {T : List Nat} {ts : List Tm} {vs : List Value}
theorem ForestT.keep (h : ForestT w T ts vs) (hs : w.heap.size ≤ w'.heap.size) (hb : ∀ b ∈ T, w'.heap[b]? = w.heap[b]?) : ForestT w' T ts vs :=
 ⟨h.len, fun b hm => Nat.lt_of_lt_of_le (h.lt b hm) hs, fun i e v he hv => (h.rep i e v he hv).mono (fun _ h => h) (fun p hp => World.cell?_of_block (hb p.block hp))⟩
theorem ForestT.step (h : ForestT w T ts vs) (hb : Below w.heap.size w w') : ForestT w' T ts vs := h.keep hb.size (fun b hm => hb.block b (h.lt b hm))
theorem ForestT.grown {row : Option Nat} (h : ForestT w T ts vs) (hg : w.grownBy w' row) (hne : ∀ b, row = some b → b ∉ T) : ForestT w' T ts vs := h.keep hg.size (fun b hm => hg.block b (h.lt b hm) (fun e => hne b e.symm hm))
theorem ForestT.nil (w : World) (T : List Nat) (hlt : ∀ b ∈ T, b < w.heap.size) : ForestT w T [] [] := ⟨rfl, hlt, fun i e v h => by cases h⟩
theorem ForestT.cells (h : ForestT w T ts vs) : sizes 4 vs := by
 have : ∀ v ∈ vs, v.cells.size = 4 := fun v hv => by
  obtain ⟨k, hk, rfl⟩ := List.getElem_of_mem hv
  obtain ⟨z, hz⟩ : ∃ z, ts[k]? = some z := ⟨_, List.getElem?_eq_getElem (by have := h.len; omega)⟩
  exact (h.rep k z _ hz (List.getElem?_eq_getElem hk)).cells4
 clear h
 induction vs with
 | nil => trivial
 | cons v r ih => exact ⟨this v List.mem_cons_self, ih (fun u hu => this u (List.mem_cons_of_mem _ hu))⟩
theorem ForestT.app {B : Nat} {v : Value} (h : ForestT w T ts vs) (hv : Apart v T) (ha : App w w' B v) : ForestT w' T ts vs := h.grown ha.grown fun b e => hv b e
theorem ForestT.put {g B : Nat} {t : TypeId} {cur cs : Array Value} (h : ForestT w T ts vs) (_k : Blk w g t cur) (p : Put w w' g t cs) (_e : B ≤ g) (hne : g ∉ T := by assumption) : ForestT w' T ts vs :=
 h.grown p.grown fun b e => by injection e with e; exact e ▸ hne
end
theorem rows_of {w : World} {B len : Nat} {ty : TypeId} {vA : Value} {avs : List Value} {S : Nat → Prop} (hA : Own w B ty 4 vA len (flatC avs)) (hS : ∀ b, vA.ownBlock = some b → S b) : ∃ A c, vA = .slice A len c ∧ (0 < len → Rows w S A (flatC avs)) := by
 obtain ⟨A, c, rfl, hrd⟩ := hA.reads
 refine ⟨A, c, rfl, fun h0 hne => ?_⟩
 obtain ⟨ad, rfl, -, hc⟩ := hrd.2 h0
 exact ⟨ad, rfl, hS _ rfl, hc⟩
theorem rows_nil {w : World} {S : Nat → Prop} {A : Option Addr} {avs : List Value} (h : avs.length = 0) : Rows w S A (flatC avs) := fun hne => by
 rw [List.eq_nil_of_length_eq_zero h] at hne
 exact absurd rfl hne
theorem ForestT.more {w : World} {T : List Nat} {ts args : List Tm} {eargs : List Ex} {vs avs evs : List Value} {B B' : Nat} {o : Int} {nm : List Nat} {vE vT : Value} (h : ForestT w T ts vs) (hle : evs.length = eargs.length) (hl : avs.length = args.length) (h60' : eargs.length ≤ 1000) (h60 : args.length ≤ 1000) (hop : I64 o) (hnm : ∀ d ∈ nm, d < 256) (hnl : nm.length ≤ 9223372036854775807)
  (hre : ∀ (i : Nat) (e : Ex) (v : Value), eargs[i]? = some e → evs[i]? = some v → RepE w (· ∈ T) e v) (hr : ∀ (i : Nat) (e : Tm) (v : Value), args[i]? = some e → avs[i]? = some v → RepT w (· ∈ T) e v) (hE : Own w B' 35 4 vE eargs.length (flatC evs)) (hA : Own w B 25 4 vT args.length (flatC avs)) :
  ForestT w (blocksOf vE ++ (blocksOf vT ++ T)) (ts ++ [.mk o nm eargs args]) (vs ++ [.agg #[.int .i64 o, .string (strOf nm), vE, vT]]) := by
 have hbE := hE.blockLt
 have hbT := hA.blockLt
 obtain ⟨AE, cE, rfl, hRE⟩ := rows_of (S := (· ∈ blocksOf vE ++ (blocksOf vT ++ T))) hE (fun b hb => List.mem_append_left _ (mem_blocksOf.2 hb))
 obtain ⟨AT, cT, rfl, hRT⟩ := rows_of (S := (· ∈ blocksOf (.slice AE eargs.length cE) ++ (blocksOf vT ++ T))) hA (fun b hb => List.mem_append_right _ (List.mem_append_left _ (mem_blocksOf.2 hb)))
 refine ⟨by rw [List.length_append, List.length_append, h.len]; rfl, fun b hm => ?_, fun i e v he hvi => ?_⟩
 ·rcases List.mem_append.1 hm with hm | hm
  ·exact (hbE b (mem_blocksOf.1 hm)).2
  ·rcases List.mem_append.1 hm with hm | hm
   ·exact (hbT b (mem_blocksOf.1 hm)).2
   ·exact h.lt b hm
 ·rcases Nat.lt_or_ge i ts.length with hi | hi
  ·rw [List.getElem?_append_left hi] at he
   rw [List.getElem?_append_left (by rw [h.len]; exact hi)] at hvi
   exact (h.rep i e v he hvi).mono (fun b hb => List.mem_append_right _ (List.mem_append_right _ hb)) (fun _ _ => rfl)
  ·rw [List.getElem?_append_right hi] at he
   rw [List.getElem?_append_right (by rw [h.len]; exact hi), h.len] at hvi
   have h0 : i - ts.length = 0 := by
    have := (List.getElem?_eq_some_iff.1 he).1
    simp at this
    exact this
   rw [h0] at he hvi
   injection he with he
   injection hvi with hvi
   subst he hvi
   refine .mk hle hl h60' h60 hop hnm hnl (fun i e v he hv => (hre i e v he hv).mono (fun b hb => List.mem_append_right _ (List.mem_append_right _ hb)) (fun _ _ => rfl)) (fun i e v he hv => (hr i e v he hv).mono (fun b hb => List.mem_append_right _ (List.mem_append_right _ hb)) (fun _ _ => rfl)) ?_ ?_
   ·rcases Nat.eq_zero_or_pos eargs.length with h0 | h0
    ·exact rows_nil (by omega)
    ·exact hRE h0
   ·rcases Nat.eq_zero_or_pos args.length with h0 | h0
    ·exact rows_nil (by omega)
    ·exact hRT h0
end Go.Proofs.YtaamkfajnpobfaaGreat

namespace Go.Proofs.YtaamkfajnpobfaaGreat
open Go.RowKit

def BuiltK (es : List Ex) (ts : List Tm) (v : Value) (w : World) : Prop := ∃ T T' B B' vs us vE vN vD vT vM vP, v = .agg #[vE, vN, vD, vT, vM, vP] ∧ Forest w T es vs ∧ ForestT w T' ts us ∧ Own w B 35 4 vE es.length (flatC vs) ∧ Own w B 3 1 vN es.length (DI (es.map zNodes)) ∧ Own w B 3 1 vD es.length (DI (es.map zDepth)) ∧
 Own w B' 25 4 vT ts.length (flatC us) ∧ Own w B' 3 1 vM ts.length (DI (ts.map zMuch)) ∧ Own w B' 3 1 vP ts.length (DI (ts.map zDeep))
end Go.Proofs.YtaamkfajnpobfaaGreat

namespace Go.Proofs.YtaamkfajnpobfaaGreat
open Go.RowKit

def treeK (n m : Nat) (AE AN AD AT AM AP : Option Addr) (cE cN cD cT cM cP : Nat) : Value := .agg #[.slice AE n cE, .slice AN n cN, .slice AD n cD, .slice AT m cT, .slice AM m cM, .slice AP m cP]
structure TreeT (w : World) (B : Nat) (ts : List Tm) (AT AM AP : Option Addr) : Prop where
 term : TmAt w B ts AT
 much : Reads w B 1 AM ts.length (DI (ts.map zMuch))
 deep : Reads w B 1 AP ts.length (DI (ts.map zDeep))
theorem TreeT.below {w w' : World} {B : Nat} {ts : List Tm} {AT AM AP : Option Addr} (h : TreeT w B ts AT AM AP) (hb : Below B w w') : TreeT w' B ts AT AM AP := ⟨h.term.below hb, h.much.below hb, h.deep.below hb⟩
theorem TmAt.more {w : World} {B B' : Nat} {ts : List Tm} {A : Option Addr} (h : TmAt w B ts A) (hb : B ≤ B') : TmAt w B' ts A := fun i x hx => by
 obtain ⟨ad, A1, A2, c1, c2, e1, e2, e3, e4⟩ := h i x hx
 exact ⟨ad, A1, A2, c1, c2, e1, Nat.lt_of_lt_of_le e2 hb, e3.more hb, e4⟩
theorem TreeT.more {w : World} {B B' : Nat} {ts : List Tm} {AT AM AP : Option Addr} (h : TreeT w B ts AT AM AP) (hb : B ≤ B') : TreeT w B' ts AT AM AP := ⟨h.term.more hb, h.much.more hb, h.deep.more hb⟩
end Go.Proofs.YtaamkfajnpobfaaGreat

namespace Go.Proofs.YtaamkfajnpobfaaGreat
open Go.RowKit

def wordsT : List (List Nat) := [[122, 101, 114, 111], [111, 110, 101], [103, 105, 118, 101], [97, 110, 100], [111, 114], [115, 99, 97, 108, 101], [119, 104, 101, 110], [117, 110, 116, 105, 108], [97, 110, 121, 116, 105, 109, 101]]
def wordT (op : Int) : List Nat := wordsT.getD (op - 1).toNat []
mutual
def termT : Tm → List Nat
 | .mk op nm es l => if op = 1 then [122, 101, 114, 111] else wordT op ++ [40] ++ joinT ((if op = 2 then [nm] else []) ++ es.map exprT ++ termTL l) ++ [41]
def termTL : List Tm → List (List Nat)
 | [] => []
 | t :: r => termT t :: termTL r
end
end Go.Proofs.YtaamkfajnpobfaaGreat

namespace Go.Proofs.YtaamkfajnpobfaaGreat
open Go.RowKit

end Go.Proofs.YtaamkfajnpobfaaGreat

namespace Go.Proofs.YtaamkfajnpobfaaGreat
open Go.RowKit

def strs (l : List (List Nat)) : List Value := l.map fun s => .string (strOf s)
end Go.Proofs.YtaamkfajnpobfaaGreat

namespace Go.Proofs.YtaamkfajnpobfaaGreat
open Go.RowKit

def blanksT (n : Nat) : List Nat := List.replicate (2 * n) 32
def segs (m : List Nat) : List (List Nat) → List Nat
 | [] => []
 | x :: r => [10] ++ m ++ x ++ r.flatMap fun y => [44, 10] ++ m ++ y
mutual
def linesT (deep : Nat) : Tm → List Nat
 | .mk op nm es l => if l = [] then termT (.mk op nm es l) else wordT op ++ [40] ++ segs (blanksT (deep + 1)) (es.map exprT ++ linesTL (deep + 1) l) ++ [10] ++ blanksT deep ++ [41]
def linesTL (deep : Nat) : List Tm → List (List Nat)
 | [] => []
 | t :: r => linesT deep t :: linesTL deep r
end
def rowsT (deep : Nat) (t : Tm) : List (List Nat) := t.exprs.map exprT ++ t.terms.map (linesT (deep + 1))
end Go.Proofs.YtaamkfajnpobfaaGreat

namespace Go.Proofs.YtaamkfajnpobfaaGreat
open Go.RowKit

def linesA (m word : List Nat) (rows : List (List Nat)) (k : Nat) : List Nat := word ++ [40] ++ segs m (rows.take k) ++ (if k = 0 ∨ k = rows.length then [10] else [44, 10])
end Go.Proofs.YtaamkfajnpobfaaGreat

namespace Go.Proofs.YtaamkfajnpobfaaGreat
open Go.RowKit

def blanks128 : List Nat := List.replicate 128 32
end Go.Proofs.YtaamkfajnpobfaaGreat

namespace Go.Proofs.YtaamkfajnpobfaaGreat
open Go.RowKit

def RecT (B g L : Nat) (t : Tm) : Prop := ∀ (x : Tm) (A1 A2 : Option Addr) (c1 c2 : Nat), x ∈ t.terms → ∀ (W : World) (bs' : List Nat), RepB W B x (.agg (tmV x A1 A2 c1 c2).toArray) → Bw W B g bs' → bs'.length ≤ L → Calls Tryz.prog 43 #[.pointer (some ⟨g, 0, none⟩), .agg (tmV x A1 A2 c1 c2).toArray] W (WrRet B g (bs' ++ termT x) W)
def rowsP (t : Tm) : List (List Nat) := t.exprs.map exprT ++ t.terms.map termT
end Go.Proofs.YtaamkfajnpobfaaGreat

namespace Go.Proofs.YtaamkfajnpobfaaGreat
open Go.RowKit

def RecS (B g L d : Nat) (t : Tm) : Prop := ∀ (x : Tm) (A1 A2 : Option Addr) (c1 c2 : Nat), x ∈ t.terms → ∀ (W : World) (bs' : List Nat), RepB W B x (.agg (tmV x A1 A2 c1 c2).toArray) → Bw W B g bs' → bs'.length ≤ L → Calls Tryz.prog 45 #[.pointer (some ⟨g, 0, none⟩), .agg (tmV x A1 A2 c1 c2).toArray, .int .i64 ((d + 1 : Nat) : Int)] W (WrRet B g (bs' ++ linesT (d + 1) x) W)
end Go.Proofs.YtaamkfajnpobfaaGreat

namespace Go.Proofs.YtaamkfajnpobfaaGreat
open Go.RowKit

def textR (t : Tm) : List Nat := if rightT t = true then termT t else []
def linesR (t : Tm) : List Nat := if rightT t = true then linesT 0 t else []
end Go.Proofs.YtaamkfajnpobfaaGreat

namespace Go.Proofs.YtaamkfajnpobfaaGreat

inductive Rs (α : Type) where
 | out
 | bad (pos : Nat) (over : Bool)
 | ok (a : α) (pos : Nat)
def Rs.bind {α β : Type} (r : Rs α) (f : α → Nat → Rs β) : Rs β := match r with
 | .out => .out
 | .bad p o => .bad p o
 | .ok a p => f a p
section
variable {α β : Type}
theorem Rs.bind_bad (p : Nat) (o : Bool) (f : α → Nat → Rs β) : (Rs.bad p o).bind f = .bad p o := rfl
theorem Rs.bind_ok (a : α) (p : Nat) (f : α → Nat → Rs β) : (Rs.ok a p).bind f = f a p := rfl
theorem Rs.bind_assoc {γ : Type} (r : Rs α) (f : α → Nat → Rs β) (g : β → Nat → Rs γ) : (r.bind f).bind g = r.bind fun a p => (f a p).bind g := by cases r <;> rfl
theorem Rs.bind_ne {r : Rs α} {f : α → Nat → Rs β} (h : r.bind f ≠ .out) : r ≠ .out := fun e => h (by rw [e]; rfl)
theorem Rs.ok_or {r : Rs α} (h : r ≠ .out) : (∃ p o, r = .bad p o) ∨ ∃ a p, r = .ok a p := by
 cases r with
 | out => exact absurd rfl h
 | bad p o => exact .inl ⟨p, o, rfl⟩
 | ok a p => exact .inr ⟨a, p, rfl⟩
end
def wAt (ws : List Wd) (p : Nat) : Wd := ws.getD p ⟨-1, [], 0, 0⟩
def isS (ws : List Wd) (p : Nat) (s : List Nat) : Bool := decide ((wAt ws p).kind = 0) && decide ((wAt ws p).text = s)
def signQ (ws : List Wd) (s : List Nat) (p : Nat) : Rs Unit := if isS ws p s = true then .ok () (p + 1) else .bad p false
def enterP (p d : Nat) : Rs Unit := if 64 < d + 1 then .bad p true else .ok () p
def signsAt : Nat → List (List Nat)
 | 0 => [[124]]
 | 1 => [[38]]
 | 2 => [[60], [60, 61], [61], [33, 61], [62, 61], [62]]
 | 3 => [[43], [45]]
 | 4 => [[42], [47]]
 | _ => []
def opsAt : Nat → List Int
 | 0 => [18]
 | 1 => [17]
 | 2 => [11, 12, 13, 14, 15, 16]
 | 3 => [5, 6]
 | 4 => [7, 8]
 | _ => []
def opAt (ws : List Wd) (lvl p : Nat) : Option Int := if (wAt ws p).kind ≠ 0 then none else if (wAt ws p).text ∈ signsAt lvl then (opsAt lvl)[(signsAt lvl).idxOf (wAt ws p).text]? else none
def mk2 (op : Int) (a b : Ex) : Ex := .mk op 0 [] [a, b]
def dayW : List Nat := [100, 97, 121]
def minW : List Nat := [109, 105, 110]
def maxW : List Nat := [109, 97, 120]
def ifW : List Nat := [105, 102]
def zeroW : List Nat := [122, 101, 114, 111]
def oneW : List Nat := [111, 110, 101]
def partsP {α : Type} (ws : List Wd) : List (Nat → Nat → Rs α) → Bool → Nat → Nat → Rs (List α)
 | [], _, p, _ => .ok [] p
 | one :: r, first, p, d => (if first = true then Rs.ok () p else signQ ws [44] p).bind fun _ p => (one p d).bind fun x p => (partsP ws r false p d).bind fun xs p => .ok (x :: xs) p
def withinP {α : Type} (ws : List Wd) (ones : List (Nat → Nat → Rs α)) (p d : Nat) : Rs (List α) := (signQ ws [40] p).bind fun _ p => (enterP p d).bind fun _ p => (partsP ws ones true p (d + 1)).bind fun xs p => (signQ ws [41] p).bind fun _ p => .ok xs p
def calledP (ws : List Wd) (E0 : Nat → Nat → Rs Ex) (op : Int) (k p d : Nat) : Rs Ex := (withinP ws (List.replicate k E0) (p + 1) d).bind fun xs p => .ok (.mk op 0 [] xs) p
def nameP (ws : List Wd) (p : Nat) : Rs (List Nat) := if (wAt ws p).kind = 3 ∧ reservedB (wAt ws p).text = false then .ok (wAt ws p).text (p + 1) else .bad p false
def atomP (ws : List Wd) (E0 : Nat → Nat → Rs Ex) (p d : Nat) : Rs Ex :=
 if (wAt ws p).kind = 1 then .ok (.mk 1 (wAt ws p).n [] []) (p + 1)
 else if (wAt ws p).kind = 2 then .ok (.mk 2 (wAt ws p).n [] []) (p + 1)
 else if (wAt ws p).kind = 3 then
  if (wAt ws p).text = dayW then .ok (.mk 4 0 [] []) (p + 1)
  else if (wAt ws p).text = minW then calledP ws E0 9 2 p d
  else if (wAt ws p).text = maxW then calledP ws E0 10 2 p d
  else if (wAt ws p).text = ifW then calledP ws E0 21 3 p d
  else (nameP ws p).bind fun nm p => .ok (.mk 3 0 nm []) p
 else if (wAt ws p).kind = 0 then (withinP ws [E0] p d).bind fun xs p => .ok (xs.getD 0 (.mk 0 0 [] [])) p
 else .bad p false
def aheadP (S : Nat → Nat → Rs Ex) (op : Int) (p d : Nat) : Rs Ex := (enterP p d).bind fun _ p => (S (p + 1) (d + 1)).bind fun x p => .ok (.mk op 0 [] [x]) p
def unaryP (ws : List Wd) (S : Nat → Nat → Rs Ex) (E0 : Nat → Nat → Rs Ex) (p d : Nat) : Rs Ex :=
 if isS ws p [33] = true then aheadP S 19 p d else if isS ws p [45] = true then aheadP S 20 p d else atomP ws E0 p d
structure PF where
 E : Nat → Nat → Nat → Rs Ex
 L : Nat → Ex → Nat → Nat → Rs Ex
 S : Nat → Nat → Rs Ex
def levN (L : Nat → Ex → Nat → Nat → Rs Ex) (S : Nat → Nat → Rs Ex) : Nat → Nat → Nat → Rs Ex
 | 0, p, d => S p d
 | j + 1, p, d => (levN L S j p d).bind fun x p => L (4 - j) x p d
def loopP (ws : List Wd) (f : PF) (lvl : Nat) (left : Ex) (p d : Nat) : Rs Ex := match opAt ws lvl p with
 | none => .ok left p
 | some op => (f.E (lvl + 1) (p + 1) d).bind fun r p => if lvl = 2 then .ok (mk2 op left r) p else f.L lvl (mk2 op left r) p d
def stepP (ws : List Wd) (f : PF) : PF where
 E := fun lvl p d => levN (loopP ws f) (unaryP ws f.S (f.E 0)) (5 - lvl) p d
 L := loopP ws f
 S := unaryP ws f.S (f.E 0)
def fuelP (ws : List Wd) : Nat → PF
 | 0 => ⟨fun _ _ _ => .out, fun _ _ _ _ => .out, fun _ _ => .out⟩
 | n + 1 => stepP ws (fuelP ws n)
theorem fuelP_E (ws : List Wd) (n lvl p d : Nat) (h : lvl < 5) : (fuelP ws (n + 1)).E lvl p d = ((fuelP ws (n + 1)).E (lvl + 1) p d).bind fun x p => (fuelP ws (n + 1)).L lvl x p d := by
 show levN (loopP ws (fuelP ws n)) (unaryP ws (fuelP ws n).S ((fuelP ws n).E 0)) (5 - lvl) p d = (levN (loopP ws (fuelP ws n)) (unaryP ws (fuelP ws n).S ((fuelP ws n).E 0)) (5 - (lvl + 1)) p d).bind _
 have e : 5 - lvl = (5 - (lvl + 1)) + 1 := by omega
 have e2 : 4 - (5 - (lvl + 1)) = lvl := by omega
 rw [e, levN, e2]
 rfl
def termsW (t : List Nat) : Int × Nat × Nat :=
 if t = [103, 105, 118, 101] then (3, 0, 1) else if t = [97, 110, 100] then (4, 0, 2) else if t = [111, 114] then (5, 0, 2) else if t = [115, 99, 97, 108, 101] then (6, 1, 1)
 else if t = [119, 104, 101, 110] then (7, 1, 1) else if t = [117, 110, 116, 105, 108] then (8, 1, 1) else if t = [97, 110, 121, 116, 105, 109, 101] then (9, 1, 1) else (0, 0, 0)
abbrev Part := Ex ⊕ Tm
def Rs.map {α β : Type} (r : Rs α) (f : α → β) : Rs β := r.bind fun a p => .ok (f a) p
def onesP (E0 : Nat → Nat → Rs Ex) (T : Nat → Nat → Rs Tm) (n m : Nat) : List (Nat → Nat → Rs Part) := List.replicate n (fun p d => (E0 p d).map .inl) ++ List.replicate m (fun p d => (T p d).map .inr)
def exprsOf (l : List Part) : List Ex := l.filterMap fun x => match x with | .inl e => some e | .inr _ => none
def termsOf2 (l : List Part) : List Tm := l.filterMap fun x => match x with | .inl _ => none | .inr t => some t
def termP (ws : List Wd) (E0 : Nat → Nat → Rs Ex) (T : Nat → Nat → Rs Tm) (p d : Nat) : Rs Tm :=
 if (wAt ws p).kind ≠ 3 then .bad p false
 else if (wAt ws p).text = zeroW then .ok (.mk 1 [] [] []) (p + 1)
 else if (wAt ws p).text = oneW then (withinP ws [fun p _ => nameP ws p] (p + 1) d).bind fun xs p => .ok (.mk 2 (xs.getD 0 []) [] []) p
 else if (termsW (wAt ws p).text).1 = 0 then .bad p false
 else (withinP ws (onesP E0 T (termsW (wAt ws p).text).2.1 (termsW (wAt ws p).text).2.2) (p + 1) d).bind fun xs q => .ok (.mk (termsW (wAt ws p).text).1 [] (exprsOf xs) (termsOf2 xs)) q
def fuelT (ws : List Wd) : Nat → Nat → Nat → Rs Tm
 | 0, _, _ => .out
 | n + 1, p, d => termP ws ((fuelP ws (n + 1)).E 0) (fuelT ws n) p d
def allP {α : Type} (ws : List Wd) (r : Rs α) : Rs α := match r with
 | .ok a p => if p = ws.length then .ok a p else .bad p false
 | r => r
end Go.Proofs.YtaamkfajnpobfaaGreat

namespace Go.Proofs.YtaamkfajnpobfaaGreat
open Go.RowKit

section
variable {P : Program} {ops : Array Oper} {Q : Exit → Act → World → Prop} {rest : List Oper} {o : Oper} {n d : Nat} {F F' : List (Nat × Value)} {w w' : World} {v : Value}
theorem Seq.callB {I : Inhabited (List Deferred)} {f : FuncId} {args : Array Value} {R : Ending → World → Prop} (he : Enters P (evF F) o w f args) (hg : o.guard = none) (hc : Calls P f args w R)
  (h : ∀ e w', R e w' → ∃ ch, e = .panicked ch ∧ Post Q (.panic ch) n F w') : Seq P ops Q (o :: rest) n F w := by
 intro a ha
 refine wpList_plain hg fun K hK => ?_
 unfold Oper.wp
 rw [he a.eval ha.ev, Oper.upon_enter]
 refine hc.mono fun e w' hR => ?_
 obtain ⟨ch, rfl, hp⟩ := h e w' hR
 exact hp _ ha
theorem Seq.panic_ {I : Inhabited (List Deferred)} {x : Operand} {u : Value} (ho : o.op = .panic x) (hx : evF F x = some v) (hg : o.guard = none) (hr : (Instr.panic v).run P w = .halt (.panic u) w) (h : Post Q (.panic [{ v := u, recovered := false }]) n F w) : Seq P ops Q (o :: rest) n F w := by
 intro a ha
 refine wpList_plain hg fun K hK => ?_
 unfold Oper.wp
 have : (execOp a.eval o).run P w = .halt (.panic u) w := by
  unfold execOp
  simp only [ho]
  rw [ha.ev _ _ hx]
  simp only [Sem.run_bind, hr]
  rfl
 rw [this, Oper.upon_panic]
 exact h _ ha
end
structure Fz (h g : Nat) (w w' : World) : Prop where
 os : w'.os = w.os
 tape : w'.tape = w.tape
 output : w'.output = w.output
 size : w.heap.size ≤ w'.heap.size
 block : ∀ k, k < h → k ≠ g → w'.heap[k]? = w.heap[k]?
class PutAt (E : Prop) (h g g' : Nat) : Prop where
 ok : E → h ≤ g' ∨ g' = g
instance {h g g' : Nat} : PutAt (h ≤ g') h g g' := ⟨.inl⟩
instance {h g g' : Nat} : PutAt (g' = g) h g g' := ⟨.inr⟩
section
variable {h g : Nat} {w w' w'' : World}
theorem Fz.refl (h g : Nat) (w : World) : Fz h g w w := ⟨rfl, rfl, rfl, Nat.le_refl _, fun _ _ _ => rfl⟩
theorem Fz.trans (a : Fz h g w w') (b : Fz h g w' w'') : Fz h g w w'' := ⟨b.os.trans a.os, b.tape.trans a.tape, b.output.trans a.output, Nat.le_trans a.size b.size, fun k hk hne => (b.block k hk hne).trans (a.block k hk hne)⟩
theorem Fz.less {h' : Nat} (a : Fz h g w w') (hh : h' ≤ h) : Fz h' g w w' := ⟨a.os, a.tape, a.output, a.size, fun k hk => a.block k (by omega)⟩
theorem Fz.of (hb : Below h w w') : Fz h g w w' := ⟨hb.os, hb.tape, hb.output, hb.size, fun k hk _ => hb.block k hk⟩
theorem Fz.step (a : Fz h g w w') (hb : Below w'.heap.size w' w'') (hh : h ≤ w.heap.size := by exact Nat.le_refl _) : Fz h g w w'' := a.trans (Fz.of (hb.mono (Nat.le_trans hh a.size)))
theorem Fz.call (a : Fz h g w w') (b : Fz w'.heap.size g w' w'') (hh : h ≤ w.heap.size := by exact Nat.le_refl _) : Fz h g w w'' := a.trans (b.less (Nat.le_trans hh a.size))
theorem Fz.put {g' : Nat} {T : TypeId} {cur cs : Array Value} {E : Prop} [at_ : PutAt E h g g'] (a : Fz h g w w') (_k : Blk w' g' T cur) (p : Put w' w'' g' T cs) (e : E) : Fz h g w w'' :=
 a.trans ⟨p.grown.os, p.grown.tape, p.grown.output, p.grown.size, fun k hk hne => by
  rcases Nat.lt_or_ge k w'.heap.size with hs | hs
  ·exact p.grown.block k hs (fun e' => by injection e' with e'; rcases at_.ok e with h1 | h1 <;> omega)
  ·have h1 : w'.heap[k]? = none := by simpa using hs
   have h2 : w''.heap[k]? = none := by have := p.size; simp; omega
   rw [h1, h2]⟩
theorem Fz.below {B : Nat} (a : Fz h g w w') (h1 : B ≤ h) (h2 : B ≤ g) : Below B w w' := ⟨a.os, a.tape, a.output, a.size, fun k hk => a.block k (by omega) (by omega)⟩
theorem Blk.fz {k : Nat} {T : TypeId} {cs : Array Value} (b : Blk w k T cs) (a : Fz w.heap.size g w w') (hne : k ≠ g := by omega) : Blk w' k T cs := by
 have h1 := a.block k b.lt hne
 unfold Blk at b ⊢
 rw [h1]
 exact b
end
structure Ctx where
 B : Nat
 g : Nat
 c : Nat
 en : Nat
 A : Option Addr
 ws : List Wd
structure Ctx.Ok (K : Ctx) : Prop where
 le : K.B ≤ K.g
 len : K.ws.length ≤ 4000
 en : K.en ≤ 4000
 word : ∀ x ∈ K.ws, I64 x.kind ∧ I64 x.n ∧ (∀ c ∈ x.text, c < 256) ∧ x.text.length ≤ 4000 ∧ x.pos ≤ 4000
def Ctx.at_ (K : Ctx) (p : Nat) : Wd := K.ws.getD p ⟨-1, [], 0, K.en⟩
def wdV (x : Wd) : Value := .agg #[.int .i64 x.kind, .string (strOf x.text), .int .i64 x.n, .int .i64 (x.pos : Int)]
theorem Ctx.at_kind (K : Ctx) (p : Nat) : (K.at_ p).kind = (wAt K.ws p).kind ∧ (K.at_ p).text = (wAt K.ws p).text ∧ (K.at_ p).n = (wAt K.ws p).n := by
 unfold Ctx.at_ wAt
 rw [List.getD_eq_getElem?_getD, List.getD_eq_getElem?_getD]
 cases K.ws[p]? <;> exact ⟨rfl, rfl, rfl⟩
theorem Ctx.Ok.at_ {K : Ctx} (h : K.Ok) (p : Nat) : I64 (K.at_ p).kind ∧ I64 (K.at_ p).n ∧ (∀ c ∈ (K.at_ p).text, c < 256) ∧ (K.at_ p).text.length ≤ 4000 ∧ (K.at_ p).pos ≤ 4000 := by
 unfold Ctx.at_
 rw [List.getD_eq_getElem?_getD]
 cases hp : K.ws[p]? with
 | none => exact ⟨show I64 (-1) by unfold I64; decide, show I64 0 by unfold I64; decide, by simp, by simp, h.en⟩
 | some x => exact h.word x (List.mem_of_getElem? hp)
structure PW (K : Ctx) (w : World) (p d : Nat) (ov : Bool) : Prop where
 blk : Blk w K.g 92 #[.slice K.A K.ws.length K.c, .int .i64 (p : Int), .int .i64 (d : Int), .bool ov, .int .i64 (K.en : Int)]
 rd : Reads w K.B 4 K.A K.ws.length (wdCells K.ws)
 p_le : p ≤ K.ws.length
 d_le : d ≤ 64 ∨ (ov = true ∧ d ≤ 65)
theorem Reads.fz {w w' : World} {K : Ctx} {g h B size n : Nat} {A : Option Addr} {xs : List Value} (r : Reads w B size A n xs) (a : Fz h g w w') (h1 : B ≤ h) (h2 : B ≤ g) : Reads w' B size A n xs := r.below (a.below h1 h2)
theorem PW.step {K : Ctx} {w w' : World} {p d : Nat} {ov : Bool} (h : PW K w p d ov) (hk : K.B ≤ K.g) (hb : Below w.heap.size w w') : PW K w' p d ov := ⟨h.blk.step hb, h.rd.below (hb.mono (by have := h.blk.lt; omega)), h.p_le, h.d_le⟩
def stopCh : List PanicEntry := [{ v := .iface 145 (.agg #[]), recovered := false }]
def PRh {α : Type} (K : Ctx) (h : Nat) (w : World) (d : Nat) (r : Rs α) (okv : α → Value → World → Prop) (e : Ending) (w' : World) : Prop :=
 Fz h K.g w w' ∧ match r with
 | .out => False
 | .bad p ov => e = .panicked stopCh ∧ ∃ d, PW K w' p d ov
 | .ok a p => ∃ v, e = .returned v ∧ PW K w' p d false ∧ okv a v w'
abbrev PR {α : Type} (K : Ctx) (w : World) (d : Nat) (r : Rs α) (okv : α → Value → World → Prop) (e : Ending) (w' : World) : Prop := PRh K w.heap.size w d r okv e w'
theorem PRh.less {α : Type} {K : Ctx} {h h' : Nat} {w w' : World} {d : Nat} {r : Rs α} {okv : α → Value → World → Prop} {e : Ending} (hr : PRh K h w d r okv e w') (hh : h' ≤ h) : PRh K h' w d r okv e w' := ⟨hr.1.less hh, hr.2⟩
theorem Runs.mkIface {P : Program} {E : Operand → Option Value} {o : Oper} {w : World} {x : Operand} {T : TypeId} {v u : Value} (ho : o.op = .makeInterface T x) (hx : E x = some v) (hr : (Instr.makeInterface T v).run P w = .ok u w) : Runs P E o w u w := fun ρ h => by
 unfold execOp; simp only [ho]; rw [h _ _ hx]; simp only [Sem.run_bind, hr, Result.andThen_ok]; rfl
theorem run_build_stop (w : World) : (Instr.build 145 #[]).run Tryz.prog w = .ok (.agg #[]) w := by kernel_rfl
theorem fail_any (g : Nat) (w : World) : Calls Tryz.prog 50 #[.pointer (some ⟨g, 0, none⟩)] w fun e w' => e = .panicked stopCh ∧ Grow w w' := by
 have bel := Below.refl w.heap.size w
 refine Zs 4 Tryz.func50 ?_
 refine Zr ?_
 refine Zv (Runs.build rfl rfl (run_build_stop _)) ?_
 refine Zv (Runs.mkIface (u := .iface 145 (.agg #[])) rfl rfl (by kernel_rfl)) ?_
 refine Seq.panic_ rfl rfl rfl (by rfl) ?_
 exact fun a ha => ⟨ha.defers, rfl, bel⟩
end Go.Proofs.YtaamkfajnpobfaaGreat

namespace Go.Proofs.YtaamkfajnpobfaaGreat
open Go.RowKit

theorem wdCells_row : ∀ (ws : List Wd) (p : Nat) (x : Wd), ws[p]? = some x → ∀ (q : Nat) (u : Value), ([.int .i64 x.kind, .string (strOf x.text), .int .i64 x.n, .int .i64 (x.pos : Int)] : List Value)[q]? = some u → (wdCells ws)[p * 4 + q]? = some u
 | [], p, x, h, _, _, _ => by simp at h
 | y :: r, 0, x, h, q, u, hu => by
  simp at h
  subst h
  have hq := (List.getElem?_eq_some_iff.1 hu).1
  rw [Nat.zero_mul, Nat.zero_add]
  show (([.int .i64 y.kind, .string (strOf y.text), .int .i64 y.n, .int .i64 (y.pos : Int)] : List Value) ++ wdCells r)[q]? = some u
  rw [List.getElem?_append_left hq]
  exact hu
 | y :: r, p + 1, x, h, q, u, hu => by
  have ih := wdCells_row r p x (by simpa using h) q u hu
  show (([.int .i64 y.kind, .string (strOf y.text), .int .i64 y.n, .int .i64 (y.pos : Int)] : List Value) ++ wdCells r)[(p + 1) * 4 + q]? = some u
  rw [List.getElem?_append_right (by simp; omega), ← ih]
  congr 1
  simp
  omega
theorem run_build_word (a d : Int) (w : World) : (Instr.build 95 #[(0, .int .i64 a), (3, .int .i64 d)]).run Tryz.prog w = .ok (.agg #[.int .i64 a, .string (strOf []), .int .i64 0, .int .i64 d]) w := by
 have hu := Tryz.underlying95
 go_simp
 rfl
theorem word_any (K : Ctx) (hK : K.Ok) (p d : Nat) (ov : Bool) (w : World) (h : PW K w p d ov) : Calls Tryz.prog 49 #[.pointer (some ⟨K.g, 0, none⟩)] w fun e w' => e = .returned (wdV (K.at_ p)) ∧ Grow w w' := by
 have bel := Below.refl w.heap.size w
 have k99 := h.blk
 have hrd := h.rd
 have hlt := h.blk.lt
 have hBg := hK.le
 refine Zs 28 Tryz.func49 ?_
 refine Zsr ?_
 refine Zl zero_lex_Word ?_
 intro g2 w1 n2
 have e2 := Nat.le_trans bel.size n2.ge
 have l2 := Nat.lt_of_lt_of_le k99.lt n2.ge
 replace bel := bel.step n2.below
 replace k99 := k99.step n2.below
 have k2 := n2.blk
 refine Zk2 0 2 (Zts (Cd.seq ?_))
 refine Cd.draw 9 (by kernel_rfl) [] (.inl rfl) rfl Grow Grow.refl (fun _ _ _ => Grow.trans) ?_
 intro w2 hw2 zw2
 replace bel := bel.step hw2
 replace k99 := k99.step hw2
 replace k2 := k2.step hw2
 have zbel := bel.size
 have zlt := k2.lt
 refine Zdm ?_
 refine Zd (fun w hG => Runs.nilCheck rfl rfl) ?_
 refine Zd (fun w hG => Runs.fieldB 1 rfl rfl Tryz.underlying92 rfl (by kernel_rfl)) ?_
 refine Zd (fun w hG => Runs.loadB rfl rfl Tryz.underlying3 rfl (k99.step hG) rfl) ?_
 refine Zdm ?_
 refine Zd (fun w hG => Runs.nilCheck rfl rfl) ?_
 refine Zd (fun w hG => Runs.fieldB 0 rfl rfl Tryz.underlying92 rfl (by kernel_rfl)) ?_
 refine Zd (fun w hG => Runs.loadB rfl rfl Tryz.underlying88 rfl (k99.step hG) rfl) ?_
 refine Zd (fun w hG => Runs.len rfl rfl Tryz.underlying88) ?_
 refine Dr.nil ?_
 refine FinX.done (F' := [(0, _), (2, _), (6, _), (11, _)]) rfl ⟨rfl, rfl, rfl, rfl, trivial⟩ ?_
 intro w3 hw3 fw3
 replace bel := bel.step hw3
 replace k99 := k99.step hw3
 replace k2 := k2.step hw3
 refine Zv (Runs.lss rfl rfl rfl) ?_
 refine Zk3 0 2 12 (Zt ?_)
 refine Cd.condD rfl (fun hc => ?_) (fun hc => ?_)
 ·obtain ⟨ad, hA, hadb, hcell⟩ := hrd.2 (by omega)
  obtain ⟨x, hx⟩ : ∃ x, K.ws[p]? = some x := ⟨_, List.getElem?_eq_getElem (by omega)⟩
  have hat : K.at_ p = x := by unfold Ctx.at_; rw [List.getD_eq_getElem?_getD, hx]; rfl
  have hce : ∀ W, Below w.heap.size w W → ∀ (q : Nat) (u : Value), ([.int .i64 x.kind, .string (strOf x.text), .int .i64 x.n, .int .i64 (x.pos : Int)] : List Value)[q]? = some u → W.cell? ((ad.add (p * 4)).add q) = some u := fun W hb q u hu => by
   rw [(hb.mono (show K.B ≤ w.heap.size by omega)).cell (by rw [block_of_add, block_of_add]; exact hadb), add_of_add]
   exact hcell _ _ (wdCells_row K.ws p x hx q u hu)
  rw [hA] at k99
  refine Cd.seq ?_
  refine Cd.draw 8 (by kernel_rfl) [] (.inl rfl) rfl Grow Grow.refl (fun _ _ _ => Grow.trans) ?_
  intro w4 hw4 zw4
  replace bel := bel.step hw4
  replace k99 := k99.step hw4
  replace k2 := k2.step hw4
  have zbel := bel.size
  have zlt := k2.lt
  refine Zdm ?_
  refine Zd (fun w hG => Runs.nilCheck rfl rfl) ?_
  refine Zd (fun w hG => Runs.fieldB 0 rfl rfl Tryz.underlying92 rfl (by kernel_rfl)) ?_
  refine Zd (fun w hG => Runs.loadB rfl rfl Tryz.underlying88 rfl (k99.step hG) rfl) ?_
  refine Zdm ?_
  refine Zd (fun w hG => Runs.nilCheck rfl rfl) ?_
  refine Zd (fun w hG => Runs.fieldB 1 rfl rfl Tryz.underlying92 rfl (by kernel_rfl)) ?_
  refine Zd (fun w hG => Runs.loadB rfl rfl Tryz.underlying3 rfl (k99.step hG) rfl) ?_
  refine Dr.nil ?_
  refine FinX.done (F' := [(0, _), (2, _), (12, _), (16, _), (20, _)]) rfl ⟨rfl, rfl, rfl, rfl, rfl, trivial⟩ ?_
  intro w5 hw5 fw5
  replace bel := bel.step hw5
  replace k99 := k99.step hw5
  replace k2 := k2.step hw5
  refine Zv (Runs.indexN rfl rfl rfl Tryz.underlying88 (s := 4) (by kernel_rfl) (j := p) rfl (by omega)) ?_
  refine Zv (Runs.loadF (ps := [.int .i64 x.kind, .string (strOf x.text), .int .i64 x.n, .int .i64 (x.pos : Int)]) rfl rfl Tryz.underlying95 rfl (m := 4) (by kernel_rfl) rfl (hce _ bel)) ?_
  refine Zo 4 k2 ?_
  intro w6 pw6
  replace bel := bel.put k2 pw6 e2
  replace k99 := k99.put pw6 (by omega)
  replace k2 := pw6.blk
  refine Zk3 0 2 12 (Zt (Cd.ret (Post.then_ret ?_)))
  refine Post.endC rfl rfl k2 Tryz.underlying95 rfl (m := 4) (by kernel_rfl) rfl (.inl rfl) ?_
  rw [hat]
  exact ⟨rfl, bel⟩
 ·have hat : K.at_ p = ⟨-1, [], 0, K.en⟩ := by
   unfold Ctx.at_
   rw [List.getD_eq_getElem?_getD, List.getElem?_eq_none (by omega)]
   rfl
  refine Cd.skip (Ztq ?_)
  refine Zm ?_
  refine Zv (Runs.nilCheck rfl rfl) ?_
  refine Zf 4 Tryz.underlying92 ?_
  refine Zv (Runs.loadB rfl rfl Tryz.underlying3 rfl k99 rfl) ?_
  refine Zv (Runs.build rfl rfl (run_build_word (-1) _ _)) ?_
  refine Zo 4 k2 ?_
  intro w4 pw4
  replace bel := bel.put k2 pw4 e2
  replace k99 := k99.put pw4 (by omega)
  replace k2 := pw4.blk
  refine Zk3 0 2 12 (Zt (Cd.ret ?_))
  refine Post.endC rfl rfl k2 Tryz.underlying95 rfl (m := 4) (by kernel_rfl) rfl (.inl rfl) ?_
  rw [hat]
  exact ⟨rfl, bel⟩
theorem is_any (K : Ctx) (hK : K.Ok) (p d : Nat) (ov : Bool) (k : Int) (s : List Nat) (w : World) (h : PW K w p d ov) (hs : ∀ x ∈ s, x < 256) : Calls Tryz.prog 118 #[.pointer (some ⟨K.g, 0, none⟩), .int .i64 k, .string (strOf s)] w fun e w' => e = .returned (.bool (decide ((wAt K.ws p).kind = k) && decide ((wAt K.ws p).text = s))) ∧ Grow w w' := by
 have bel := Below.refl w.heap.size w
 obtain ⟨a1, a2, a3, a4, a5⟩ := hK.at_ p
 obtain ⟨b1, b2, b3⟩ := K.at_kind p
 rw [← b1, ← b2]
 have hw := fun W (hb : Below w.heap.size w W) => word_any K hK p d ov W (h.step hK.le hb)
 unfold wdV at hw
 refine Zs 20 Tryz.func118 ?_
 refine Zsr ?_
 refine Za ?_
 refine Zk4 0 1 2 6 (Ztq ?_)
 refine Zm ?_
 refine Zc (Ze Tryz.func49) (hw _ bel) ?_
 rintro e w5 ⟨rfl, hb5⟩
 refine ⟨_, rfl, ?_⟩
 replace bel := bel.step hb5
 refine Zl zero_lex_Word ?_
 intro g7 w1 n7
 have e7 := Nat.le_trans bel.size n7.ge
 replace bel := bel.step n7.below
 have k7 := n7.blk
 refine Zo 4 k7 ?_
 intro w2 pw2
 replace bel := bel.put k7 pw2 e7
 replace k7 := pw2.blk
 refine Zk5 0 1 2 6 7 (Ztq ?_)
 refine Zf 0 Tryz.underlying95 ?_
 refine Zv (Runs.loadB rfl rfl Tryz.underlying3 rfl k7 rfl) ?_
 refine Zm ?_
 refine Zv (Runs.eqlI rfl rfl rfl) ?_
 refine Zm ?_
 refine SeqC.start ?_
 refine Zco (fun hcx => Runs.fieldB 1 rfl rfl Tryz.underlying95 rfl (by kernel_rfl)) ?_
 refine SeqC.next rfl rfl rfl rfl rfl rfl rfl (fun hcx => Runs.loadB rfl rfl Tryz.underlying9 rfl k7 rfl) ?_
 refine SeqC.next rfl rfl rfl rfl rfl rfl rfl (fun hcx => Runs.move rfl rfl) ?_
 refine SeqC.next rfl rfl rfl rfl rfl rfl rfl (fun hcx => Runs.eqlL rfl rfl rfl a3 hs) ?_
 refine SeqC.and rfl rfl rfl rfl rfl rfl rfl ?_
 refine Za ?_
 refine Zk5 0 1 2 6 7 (Zt (Cd.ret ?_))
 refine Post.end1 rfl rfl (.inl rfl) ?_
 exact ⟨rfl, bel⟩
theorem PW.next {K : Ctx} {w w' : World} {p d : Nat} {ov : Bool} (h : PW K w p d ov) (hK : K.B ≤ K.g) (hp : p + 1 ≤ K.ws.length) (bel : Fz w.heap.size K.g w w') (hb : Blk w' K.g 92 #[.slice K.A K.ws.length K.c, .int .i64 ((p : Int) + 1), .int .i64 (d : Int), .bool ov, .int .i64 (K.en : Int)]) : PW K w' (p + 1) d ov :=
 ⟨by rw [Int.natCast_add]; exact hb, h.rd.below (bel.below (by have := h.blk.lt; omega) hK), hp, h.d_le⟩
theorem signQ_any (K : Ctx) (hK : K.Ok) (p d : Nat) (s : List Nat) (w : World) (h : PW K w p d false) (hs : ∀ x ∈ s, x < 256) : Calls Tryz.prog 98 #[.pointer (some ⟨K.g, 0, none⟩), .string (strOf s)] w (PR K w d (signQ K.ws s p) fun _ _ _ => True) := by
 have bel := Fz.refl w.heap.size K.g w
 have k99 := h.blk
 have e99 : K.g = K.g := rfl
 have hlt := h.blk.lt
 have hlen := hK.len
 have hle := h.p_le
 have hw := is_any K hK p d false 0 s w h hs
 have hq : signQ K.ws s p = if (decide ((wAt K.ws p).kind = 0) && decide ((wAt K.ws p).text = s)) = true then .ok () (p + 1) else .bad p false := rfl
 refine Zs 17 Tryz.func98 ?_
 refine Cd.seq (Zsr ?_)
 refine Zm ?_
 refine Zm ?_
 refine Zc (Ze Tryz.func118) (hw) ?_
 rintro e w5 ⟨rfl, hb5⟩
 refine ⟨_, rfl, ?_⟩
 replace bel := bel.step hb5
 replace k99 := k99.step hb5
 refine Zv (Runs.not rfl rfl) ?_
 refine Zk3 0 1 7 (Zt ?_)
 refine Cd.cond rfl (fun hc => ?_) (fun hc => ?_)
 ·have hc : ¬ (decide ((wAt K.ws p).kind = 0) && decide ((wAt K.ws p).text = s)) = true := by rw [Bool.not_eq_true]; simpa only [Bool.not_eq_true'] using hc
  rw [if_neg hc] at hq
  refine Zr ?_
  refine Zm ?_
  refine Seq.callB (Ze Tryz.func50) rfl (fail_any K.g _) ?_
  rintro e w6 ⟨rfl, hb6⟩
  refine ⟨_, rfl, fun a ha => ⟨ha.defers, ?_⟩⟩
  rw [hq]
  exact ⟨bel.step hb6, rfl, d, ⟨k99.step hb6, h.rd.below ((bel.step hb6).below (by have := hK.le; omega) hK.le), h.p_le, h.d_le⟩⟩
 ·have hc : (decide ((wAt K.ws p).kind = 0) && decide ((wAt K.ws p).text = s)) = true := by simpa only [Bool.not_eq_false'] using hc
  rw [if_pos hc] at hq
  have hp : p + 1 ≤ K.ws.length := by
   rcases Nat.lt_or_ge p K.ws.length with hp | hp
   ·exact hp
   ·simp only [Bool.and_eq_true, decide_eq_true_eq] at hc
    have h1 : wAt K.ws p = ⟨-1, [], 0, 0⟩ := by unfold wAt; rw [List.getD_eq_getElem?_getD, List.getElem?_eq_none hp]; rfl
    rw [h1] at hc
    exact absurd hc.1 (by decide)
  refine Cd.skip (Ztr ?_)
  refine Zm ?_
  refine Zv (Runs.nilCheck rfl rfl) ?_
  refine Zf 1 Tryz.underlying92 ?_
  refine Zv (Runs.loadB rfl rfl Tryz.underlying3 rfl k99 rfl) ?_
  refine Za_ ?_
  refine Zv (Runs.nilCheck rfl rfl) ?_
  refine Zf 1 Tryz.underlying92 ?_
  refine Zq k99 ?_
  intro w1 pw1
  replace bel := bel.put k99 pw1 e99
  replace k99 := pw1.blk
  refine Zk3 0 1 7 ?_
  refine Post.end0 rfl (.inr rfl) ?_
  rw [hq]
  exact ⟨bel, _, rfl, h.next hK.le hp bel k99, trivial⟩
theorem enter_any (K : Ctx) (hK : K.Ok) (p d : Nat) (w : World) (h : PW K w p d false) : Calls Tryz.prog 99 #[.pointer (some ⟨K.g, 0, none⟩)] w (PR K w (d + 1) (enterP p d) fun _ _ _ => True) := by
 have bel := Fz.refl w.heap.size K.g w
 have k99 := h.blk
 have e99 : K.g = K.g := rfl
 have hlt := h.blk.lt
 have hde : d ≤ 64 := by rcases h.d_le with h | ⟨h, -⟩; exact h; cases h
 have hle := hK.le
 have hq : enterP p d = if 64 < d + 1 then .bad p true else .ok () p := rfl
 refine Zs 19 Tryz.func99 ?_
 refine Zsr ?_
 refine Zm ?_
 refine Zv (Runs.nilCheck rfl rfl) ?_
 refine Zf 2 Tryz.underlying92 ?_
 refine Zv (Runs.loadB rfl rfl Tryz.underlying3 rfl k99 rfl) ?_
 refine Za_ ?_
 refine Zv (Runs.nilCheck rfl rfl) ?_
 refine Zf 2 Tryz.underlying92 ?_
 refine Zq k99 ?_
 intro w1 pw1
 replace bel := bel.put k99 pw1 e99
 replace k99 := pw1.blk
 refine Zk1 0 (Ztq ?_)
 refine Zm ?_
 refine Zv (Runs.nilCheck rfl rfl) ?_
 refine Zf 2 Tryz.underlying92 ?_
 refine Zv (Runs.loadB rfl rfl Tryz.underlying3 rfl k99 rfl) ?_
 refine Zv (Runs.gtr rfl rfl rfl) ?_
 refine Zk2 0 13 (Zt ?_)
 refine Cd.condD rfl (fun hc => ?_) (fun hc => ?_)
 ·rw [if_pos (by omega)] at hq
  refine Zsr ?_
  refine Zm ?_
  refine Zv (Runs.nilCheck rfl rfl) ?_
  refine Zf 3 Tryz.underlying92 ?_
  refine Zq k99 ?_
  intro w2 pw2
  replace bel := bel.put k99 pw2 e99
  replace k99 := pw2.blk
  refine Zk2 0 13 (Ztr ?_)
  refine Zm ?_
  refine Seq.callB (Ze Tryz.func50) rfl (fail_any K.g _) ?_
  rintro e w6 ⟨rfl, hb6⟩
  refine ⟨_, rfl, fun a ha => ⟨ha.defers, ?_⟩⟩
  rw [hq]
  exact ⟨bel.step hb6, rfl, d + 1, ⟨by have := k99.step hb6; rw [Int.natCast_add]; exact this, h.rd.below ((bel.step hb6).below (by omega) hle), h.p_le, .inr ⟨rfl, by omega⟩⟩⟩
 ·rw [if_neg (by omega)] at hq
  refine Cd.skip ?_
  refine Post.end0 rfl (.inr rfl) ?_
  rw [hq]
  exact ⟨bel, _, rfl, ⟨by rw [Int.natCast_add]; exact k99, h.rd.below (bel.below (by omega) hle), h.p_le, .inl (by omega)⟩, trivial⟩
end Go.Proofs.YtaamkfajnpobfaaGreat

namespace Go.Proofs.YtaamkfajnpobfaaGreat
open Go.RowKit

def idxZ (L : List (List Nat)) (s : List Nat) : Int := if s ∈ L then (L.idxOf s : Int) else -1
theorem indexS_any (L : List (List Nat)) (s : List Nat) (A : Option Addr) (c B : Nat) (w : World) (hr : Reads w B 1 A L.length (strV L)) (hB : B ≤ w.heap.size) (hl : L.length ≤ 1000) (hL : ∀ t ∈ L, ∀ x ∈ t, x < 256) (hs : ∀ x ∈ s, x < 256) :
  Calls Tryz.prog 72 #[.slice A L.length c, .string (strOf s)] w fun e w' => e = .returned (.int .i64 (idxZ L s)) ∧ Grow w w' := by
 have bel := Below.refl w.heap.size w
 refine Zs 19 Tryz.func72 ?_
 refine Zsr ?_
 refine Za ?_
 refine Zk3 0 1 4 (Zts (Zsr ?_))
 refine Zm ?_
 refine Zv (Runs.len rfl rfl Tryz.underlying114) ?_
 refine Zm ?_
 refine Zk5 0 1 4 7 8 (Zt (Cd.block ?_))
 refine Cd.loop (σ := Nat) (fun k => [(0, .slice A L.length c), (1, .string (strOf s)), (7, .int .i64 (L.length : Int)), (8, .int .i64 (k : Int))]) (fun k wr => k ≤ L.length ∧ Below w.heap.size w wr ∧ ∀ t ∈ L.take k, t ≠ s) (fun k => L.length - k) 0 ⟨Nat.zero_le _, bel, by simp⟩ ⟨rfl, rfl, rfl, rfl, trivial⟩ ?_
 clear bel
 rintro k wr ⟨hk, bel, hno⟩
 refine Zsr ?_
 refine Zv (Runs.lss rfl rfl rfl) ?_
 refine Zk5 0 1 7 8 9 (Zts ?_)
 refine Cd.condD rfl (fun hc => ?_) (fun hc => ?_)
 ·obtain ⟨t, ht⟩ : ∃ t, L[k]? = some t := ⟨_, List.getElem?_eq_getElem (by omega)⟩
  have hr := hr.below (bel.mono hB)
  obtain ⟨ad, rfl, -, hc⟩ := hr.2 (by omega)
  have hc := hc k (.string (strOf t)) (by simp [strV, ht])
  have htk : L.take (k + 1) = L.take k ++ [t] := by rw [List.take_add_one, ht]; rfl
  refine Cd.skip (Zts (Cd.block (Zsr ?_)))
  refine Zm ?_
  refine Za ?_
  refine Zk6 0 1 5 7 8 9 (Ztq ?_)
  refine Zm ?_
  refine Zm ?_
  refine Zm ?_
  refine Zv (Runs.index1 rfl rfl rfl Tryz.underlying114 (by kernel_rfl) (j := k) rfl (by omega)) ?_
  refine Zv (Runs.load1 rfl rfl Tryz.underlying9 rfl hc) ?_
  refine Zv (Runs.eqlL rfl rfl rfl hs (hL t (List.mem_of_getElem? ht))) ?_
  refine Zk7 0 1 5 7 8 9 16 (Zt ?_)
  refine Cd.condD rfl (fun hc => ?_) (fun hc => ?_)
  ·skip
   refine Zsr ?_
   refine Zm ?_
   refine Za ?_
   refine Zk8 0 1 4 5 7 8 9 16 (Zt (Cd.ret (Post.block_ret (Post.then_ret (Post.round_ret (Post.block_ret (Post.then_ret ?_)))))))
   refine Post.end1 rfl rfl (.inl rfl) ?_
   have hi : L.idxOf s = k := by
    have hlt := (List.getElem?_eq_some_iff.1 ht).1
    have h1 : L = L.take k ++ t :: L.drop (k + 1) := by
     rw [List.getElem?_eq_getElem hlt] at ht
     injection ht with ht
     rw [← ht, List.getElem_cons_drop, List.take_append_drop]
    rw [h1, List.idxOf_append, if_neg (fun hm => hno s hm rfl), hc, List.idxOf_cons_self, List.length_take]
    omega
   unfold idxZ
   rw [if_pos (by rw [hc]; exact List.mem_of_getElem? ht), hi]
   exact ⟨rfl, bel⟩
  ·skip
   refine Cd.skip (Post.block_normal (Ztr ?_))
   refine Za_ ?_
   refine Zm ?_
   refine Zk7 0 1 5 7 8 9 16 ?_
   refine Post.round (k + 1) ⟨rfl, rfl, rfl, rfl, trivial⟩ ⟨by omega, bel, fun u hu => ?_⟩ (by omega)
   rw [htk] at hu
   rcases List.mem_append.1 hu with hu | hu
   ·exact hno u hu
   ·obtain rfl := List.mem_singleton.1 hu
    exact fun e => hc e.symm
 ·obtain rfl : k = L.length := by omega
  rw [List.take_of_length_le (Nat.le_refl _)] at hno
  refine Cd.exit (Post.then_exit (Post.round_exit (Post.block_exit (Ztq ?_))))
  refine Za ?_
  refine Zk6 0 1 4 7 8 9 (Zt (Cd.ret ?_))
  refine Post.end1 rfl rfl (.inl rfl) ?_
  unfold idxZ
  rw [if_neg fun hm => hno s hm rfl]
  exact ⟨rfl, bel⟩
structure LvB (w : World) (g lvl ga gb c d : Nat) (cs : Array Value) : Prop where
 lev : Blk w g 121 cs
 s0 : cs[lvl * 3]? = some (.slice (some ⟨ga, 0, none⟩) (signsAt lvl).length c)
 s1 : cs[lvl * 3 + 1]? = some (.slice (some ⟨gb, 0, none⟩) (opsAt lvl).length d)
 s2 : cs[lvl * 3 + 2]? = some (.bool (decide (lvl = 2)))
 sg : Blk w ga 9 (strV (signsAt lvl)).toArray
 op : Blk w gb 3 (DI (opsAt lvl)).toArray
theorem zero_parse_level : zeroIs Tryz.prog 121 = some (some (.agg #[.slice none 0 0, .slice none 0 0, .bool false])) := by kernel_rfl
theorem run_build_level (a b : Addr) (n c m d : Nat) (x : Bool) (w : World) : (Instr.build 121 #[(0, .slice (some a) n c), (1, .slice (some b) m d), (2, .bool x)]).run Tryz.prog w = .ok (.agg #[.slice (some a) n c, .slice (some b) m d, .bool x]) w := by
 have hu := Tryz.underlying121
 go_simp
theorem levels_any (w : World) : Calls Tryz.prog 70 #[] w fun e w' => ∃ g, e = .returned (.slice (some ⟨g, 0, none⟩) 5 5) ∧ Grow w w' ∧ ∀ lvl, lvl < 5 → ∃ ga gb c d cs, LvB w' g lvl ga gb c d cs := by
 have bel := Below.refl w.heap.size w
 refine Zs 17 Tryz.func70 ?_
 refine Zsr ?_
 refine Za ?_
 refine Zk1 0 (Ztq ?_)
 refine Seq.slice (vs := [_]) (s := 1) rfl rfl rfl Tryz.underlying114 (by kernel_rfl) (zero_string) (by omega) (by omega) ⟨rfl, trivial⟩ rfl rfl rfl ?_
 intro g1 w1 n1
 have e1 := Nat.le_trans bel.size n1.ge
 replace bel := bel.step n1.below
 have k1 := n1.blk
 refine Seq.slice (vs := [_]) (s := 1) rfl rfl rfl Tryz.underlying43 (by kernel_rfl) (zero_int) (by omega) (by omega) ⟨rfl, trivial⟩ rfl rfl rfl ?_
 intro g2 w2 n2
 have e2 := Nat.le_trans bel.size n2.ge
 have l2 := Nat.lt_of_lt_of_le k1.lt n2.ge
 replace bel := bel.step n2.below
 replace k1 := k1.step n2.below
 have k2 := n2.blk
 refine Zv (Runs.build rfl rfl (run_build_level _ _ _ _ _ _ _ _)) ?_
 refine Seq.slice (vs := [_]) (s := 1) rfl rfl rfl Tryz.underlying114 (by kernel_rfl) (zero_string) (by omega) (by omega) ⟨rfl, trivial⟩ rfl rfl rfl ?_
 intro g4 w3 n4
 have e4 := Nat.le_trans bel.size n4.ge
 have l4 := Nat.lt_of_lt_of_le k2.lt n4.ge
 replace bel := bel.step n4.below
 replace k1 := k1.step n4.below
 replace k2 := k2.step n4.below
 have k4 := n4.blk
 refine Seq.slice (vs := [_]) (s := 1) rfl rfl rfl Tryz.underlying43 (by kernel_rfl) (zero_int) (by omega) (by omega) ⟨rfl, trivial⟩ rfl rfl rfl ?_
 intro g5 w4 n5
 have e5 := Nat.le_trans bel.size n5.ge
 have l5 := Nat.lt_of_lt_of_le k4.lt n5.ge
 replace bel := bel.step n5.below
 replace k1 := k1.step n5.below
 replace k2 := k2.step n5.below
 replace k4 := k4.step n5.below
 have k5 := n5.blk
 refine Zv (Runs.build rfl rfl (run_build_level _ _ _ _ _ _ _ _)) ?_
 refine Seq.slice (vs := [_, _, _, _, _, _]) (s := 1) rfl rfl rfl Tryz.underlying114 (by kernel_rfl) (zero_string) (by omega) (by omega) ⟨rfl, rfl, rfl, rfl, rfl, rfl, trivial⟩ rfl rfl rfl ?_
 intro g7 w5 n7
 have e7 := Nat.le_trans bel.size n7.ge
 have l7 := Nat.lt_of_lt_of_le k5.lt n7.ge
 replace bel := bel.step n7.below
 replace k1 := k1.step n7.below
 replace k2 := k2.step n7.below
 replace k4 := k4.step n7.below
 replace k5 := k5.step n7.below
 have k7 := n7.blk
 refine Seq.slice (vs := [_, _, _, _, _, _]) (s := 1) rfl rfl rfl Tryz.underlying43 (by kernel_rfl) (zero_int) (by omega) (by omega) ⟨rfl, rfl, rfl, rfl, rfl, rfl, trivial⟩ rfl rfl rfl ?_
 intro g8 w6 n8
 have e8 := Nat.le_trans bel.size n8.ge
 have l8 := Nat.lt_of_lt_of_le k7.lt n8.ge
 replace bel := bel.step n8.below
 replace k1 := k1.step n8.below
 replace k2 := k2.step n8.below
 replace k4 := k4.step n8.below
 replace k5 := k5.step n8.below
 replace k7 := k7.step n8.below
 have k8 := n8.blk
 refine Zv (Runs.build rfl rfl (run_build_level _ _ _ _ _ _ _ _)) ?_
 refine Seq.slice (vs := [_, _]) (s := 1) rfl rfl rfl Tryz.underlying114 (by kernel_rfl) (zero_string) (by omega) (by omega) ⟨rfl, rfl, trivial⟩ rfl rfl rfl ?_
 intro g10 w7 n10
 have e10 := Nat.le_trans bel.size n10.ge
 have l10 := Nat.lt_of_lt_of_le k8.lt n10.ge
 replace bel := bel.step n10.below
 replace k1 := k1.step n10.below
 replace k2 := k2.step n10.below
 replace k4 := k4.step n10.below
 replace k5 := k5.step n10.below
 replace k7 := k7.step n10.below
 replace k8 := k8.step n10.below
 have k10 := n10.blk
 refine Seq.slice (vs := [_, _]) (s := 1) rfl rfl rfl Tryz.underlying43 (by kernel_rfl) (zero_int) (by omega) (by omega) ⟨rfl, rfl, trivial⟩ rfl rfl rfl ?_
 intro g11 w8 n11
 have e11 := Nat.le_trans bel.size n11.ge
 have l11 := Nat.lt_of_lt_of_le k10.lt n11.ge
 replace bel := bel.step n11.below
 replace k1 := k1.step n11.below
 replace k2 := k2.step n11.below
 replace k4 := k4.step n11.below
 replace k5 := k5.step n11.below
 replace k7 := k7.step n11.below
 replace k8 := k8.step n11.below
 replace k10 := k10.step n11.below
 have k11 := n11.blk
 refine Zv (Runs.build rfl rfl (run_build_level _ _ _ _ _ _ _ _)) ?_
 refine Seq.slice (vs := [_, _]) (s := 1) rfl rfl rfl Tryz.underlying114 (by kernel_rfl) (zero_string) (by omega) (by omega) ⟨rfl, rfl, trivial⟩ rfl rfl rfl ?_
 intro g13 w9 n13
 have e13 := Nat.le_trans bel.size n13.ge
 have l13 := Nat.lt_of_lt_of_le k11.lt n13.ge
 replace bel := bel.step n13.below
 replace k1 := k1.step n13.below
 replace k2 := k2.step n13.below
 replace k4 := k4.step n13.below
 replace k5 := k5.step n13.below
 replace k7 := k7.step n13.below
 replace k8 := k8.step n13.below
 replace k10 := k10.step n13.below
 replace k11 := k11.step n13.below
 have k13 := n13.blk
 refine Seq.slice (vs := [_, _]) (s := 1) rfl rfl rfl Tryz.underlying43 (by kernel_rfl) (zero_int) (by omega) (by omega) ⟨rfl, rfl, trivial⟩ rfl rfl rfl ?_
 intro g14 w10 n14
 have e14 := Nat.le_trans bel.size n14.ge
 have l14 := Nat.lt_of_lt_of_le k13.lt n14.ge
 replace bel := bel.step n14.below
 replace k1 := k1.step n14.below
 replace k2 := k2.step n14.below
 replace k4 := k4.step n14.below
 replace k5 := k5.step n14.below
 replace k7 := k7.step n14.below
 replace k8 := k8.step n14.below
 replace k10 := k10.step n14.below
 replace k11 := k11.step n14.below
 replace k13 := k13.step n14.below
 have k14 := n14.blk
 refine Zv (Runs.build rfl rfl (run_build_level _ _ _ _ _ _ _ _)) ?_
 refine Seq.slice (vs := [_, _, _, _, _]) (s := 3) rfl rfl rfl Tryz.underlying116 (by kernel_rfl) (zero_parse_level) (by omega) (by omega) ⟨rfl, rfl, rfl, rfl, rfl, trivial⟩ rfl rfl rfl ?_
 intro g16 w11 n16
 have e16 := Nat.le_trans bel.size n16.ge
 have l16 := Nat.lt_of_lt_of_le k14.lt n16.ge
 replace bel := bel.step n16.below
 replace k1 := k1.step n16.below
 replace k2 := k2.step n16.below
 replace k4 := k4.step n16.below
 replace k5 := k5.step n16.below
 replace k7 := k7.step n16.below
 replace k8 := k8.step n16.below
 replace k10 := k10.step n16.below
 replace k11 := k11.step n16.below
 replace k13 := k13.step n16.below
 replace k14 := k14.step n16.below
 have k16 := n16.blk
 refine Za ?_
 refine Zk1 0 (Zt (Cd.ret ?_))
 refine Post.end1 rfl rfl (.inl rfl) ?_
 refine ⟨_, rfl, bel, fun lvl hlvl => ?_⟩
 match lvl, hlvl with
 | 0, _ => exact ⟨_, _, _, _, _, k16, rfl, rfl, rfl, k1, k2⟩
 | 1, _ => exact ⟨_, _, _, _, _, k16, rfl, rfl, rfl, k4, k5⟩
 | 2, _ => exact ⟨_, _, _, _, _, k16, rfl, rfl, rfl, k7, k8⟩
 | 3, _ => exact ⟨_, _, _, _, _, k16, rfl, rfl, rfl, k10, k11⟩
 | 4, _ => exact ⟨_, _, _, _, _, k16, rfl, rfl, rfl, k13, k14⟩
theorem terms_any (t : List Nat) (w : World) (ht : ∀ x ∈ t, x < 256) : Calls Tryz.prog 54 #[.string (strOf t)] w fun e w' => e = .returned (.tuple #[.int .i64 (termsW t).1, .int .i64 ((termsW t).2.1 : Int), .int .i64 ((termsW t).2.2 : Int)]) ∧ Grow w w' := by
 have bel := Below.refl w.heap.size w
 unfold termsW
 refine Zs 20 Tryz.func54 ?_
 refine Zsr ?_
 refine Za ?_
 refine Za ?_
 refine Za ?_
 refine Zk4 0 2 3 4 (Zts (Zsr ?_))
 refine Zm ?_
 refine Zk5 0 2 3 4 5 (Zt (Cd.block (Zsr ?_)))
 refine Zv (Runs.eqlL (b := [103, 105, 118, 101]) rfl rfl rfl ht (by decide)) ?_
 refine Za ?_
 refine Zk6 0 2 3 4 5 6 (Zt ?_)
 refine Cd.condD rfl (fun hc => ?_) (fun h0 => ?_)
 ·rw [if_pos hc]
  refine Zsr ?_
  refine Za ?_
  refine Za ?_
  refine Za ?_
  refine Zk6 0 2 3 4 5 6 (Zt (Cd.ret (Post.block_ret (Post.then_ret ?_))))
  refine Post.end3 rfl rfl rfl rfl (.inl rfl) ?_
  exact ⟨rfl, bel⟩
 refine Zsr ?_
 refine Zv (Runs.eqlL (b := [97, 110, 100]) rfl rfl rfl ht (by decide)) ?_
 refine Za ?_
 refine Zk7 0 2 3 4 5 6 8 (Zt ?_)
 refine Cd.condD rfl (fun hc => ?_) (fun h1 => ?_)
 ·rw [if_neg h0, if_pos hc]
  refine Zsr ?_
  refine Za ?_
  refine Za ?_
  refine Za ?_
  refine Zk7 0 2 3 4 5 6 8 (Zt (Cd.ret (Post.block_ret (Post.then_ret ?_))))
  refine Post.end3 rfl rfl rfl rfl (.inl rfl) ?_
  exact ⟨rfl, bel⟩
 refine Zsr ?_
 refine Zv (Runs.eqlL (b := [111, 114]) rfl rfl rfl ht (by decide)) ?_
 refine Za ?_
 refine Zk8 0 2 3 4 5 6 8 10 (Zt ?_)
 refine Cd.condD rfl (fun hc => ?_) (fun h2 => ?_)
 ·rw [if_neg h0, if_neg h1, if_pos hc]
  refine Zsr ?_
  refine Za ?_
  refine Za ?_
  refine Za ?_
  refine Zk8 0 2 3 4 5 6 8 10 (Zt (Cd.ret (Post.block_ret (Post.then_ret ?_))))
  refine Post.end3 rfl rfl rfl rfl (.inl rfl) ?_
  exact ⟨rfl, bel⟩
 refine Zsr ?_
 refine Zv (Runs.eqlL (b := [115, 99, 97, 108, 101]) rfl rfl rfl ht (by decide)) ?_
 refine Za ?_
 refine Zk9 0 2 3 4 5 6 8 10 12 (Zt ?_)
 refine Cd.condD rfl (fun hc => ?_) (fun h3 => ?_)
 ·rw [if_neg h0, if_neg h1, if_neg h2, if_pos hc]
  refine Zsr ?_
  refine Za ?_
  refine Za ?_
  refine Za ?_
  refine Zk9 0 2 3 4 5 6 8 10 12 (Zt (Cd.ret (Post.block_ret (Post.then_ret ?_))))
  refine Post.end3 rfl rfl rfl rfl (.inl rfl) ?_
  exact ⟨rfl, bel⟩
 refine Zsr ?_
 refine Zv (Runs.eqlL (b := [119, 104, 101, 110]) rfl rfl rfl ht (by decide)) ?_
 refine Za ?_
 refine Zk10 0 2 3 4 5 6 8 10 12 14 (Zt ?_)
 refine Cd.condD rfl (fun hc => ?_) (fun h4 => ?_)
 ·rw [if_neg h0, if_neg h1, if_neg h2, if_neg h3, if_pos hc]
  refine Zsr ?_
  refine Za ?_
  refine Za ?_
  refine Za ?_
  refine Zk10 0 2 3 4 5 6 8 10 12 14 (Zt (Cd.ret (Post.block_ret (Post.then_ret ?_))))
  refine Post.end3 rfl rfl rfl rfl (.inl rfl) ?_
  exact ⟨rfl, bel⟩
 refine Zsr ?_
 refine Zv (Runs.eqlL (b := [117, 110, 116, 105, 108]) rfl rfl rfl ht (by decide)) ?_
 refine Za ?_
 refine Zk11 0 2 3 4 5 6 8 10 12 14 16 (Zt ?_)
 refine Cd.condD rfl (fun hc => ?_) (fun h5 => ?_)
 ·rw [if_neg h0, if_neg h1, if_neg h2, if_neg h3, if_neg h4, if_pos hc]
  refine Zsr ?_
  refine Za ?_
  refine Za ?_
  refine Za ?_
  refine Zk11 0 2 3 4 5 6 8 10 12 14 16 (Zt (Cd.ret (Post.block_ret (Post.then_ret ?_))))
  refine Post.end3 rfl rfl rfl rfl (.inl rfl) ?_
  exact ⟨rfl, bel⟩
 refine Zsr ?_
 refine Zv (Runs.eqlL (b := [97, 110, 121, 116, 105, 109, 101]) rfl rfl rfl ht (by decide)) ?_
 refine Za ?_
 refine Zk12 0 2 3 4 5 6 8 10 12 14 16 18 (Zt ?_)
 refine Cd.condD rfl (fun hc => ?_) (fun h6 => ?_)
 ·rw [if_neg h0, if_neg h1, if_neg h2, if_neg h3, if_neg h4, if_neg h5, if_pos hc]
  refine Zsr ?_
  refine Za ?_
  refine Za ?_
  refine Za ?_
  refine Zk12 0 2 3 4 5 6 8 10 12 14 16 18 (Zt (Cd.ret (Post.block_ret (Post.then_ret ?_))))
  refine Post.end3 rfl rfl rfl rfl (.inl rfl) ?_
  exact ⟨rfl, bel⟩
 refine Cd.skip (Post.block_normal (Ztq ?_))
 refine Za ?_
 refine Za ?_
 refine Za ?_
 refine Zk12 0 2 3 4 5 6 8 10 12 14 16 18 (Zt (Cd.ret ?_))
 refine Post.end3 rfl rfl rfl rfl (.inl rfl) ?_
 rw [if_neg h0, if_neg h1, if_neg h2, if_neg h3, if_neg h4, if_neg h5, if_neg h6]
 exact ⟨rfl, bel⟩
theorem name_any (K : Ctx) (hK : K.Ok) (p d : Nat) (w : World) (h : PW K w p d false) : Calls Tryz.prog 53 #[.pointer (some ⟨K.g, 0, none⟩)] w (PR K w d (nameP K.ws p) fun nm v _ => v = .string (strOf nm)) := by
 have bel := Fz.refl w.heap.size K.g w
 have k99 := h.blk
 have e99 : K.g = K.g := rfl
 have hlt := h.blk.lt
 have hlen := hK.len
 have hle := h.p_le
 obtain ⟨a1, a2, a3, a4, a5⟩ := hK.at_ p
 obtain ⟨b1, b2, b3⟩ := K.at_kind p
 have hw := fun W (hb : Below w.heap.size w W) => word_any K hK p d false W (h.step hK.le hb)
 unfold wdV at hw
 have hres := fun W => reserved_any (K.at_ p).text W a3
 have hq : nameP K.ws p = if (K.at_ p).kind = 3 ∧ reservedB (K.at_ p).text = false then .ok (K.at_ p).text (p + 1) else .bad p false := by rw [b1, b2]; rfl
 refine Zs 25 Tryz.func53 ?_
 refine Zsr ?_
 refine Za ?_
 refine Zk2 0 2 (Ztq ?_)
 refine Zm ?_
 refine Zc (Ze Tryz.func49) (hw _ (Below.refl _ _)) ?_
 rintro e w5 ⟨rfl, hb5⟩
 refine ⟨_, rfl, ?_⟩
 replace bel := bel.step hb5
 replace k99 := k99.step hb5
 refine Zl zero_lex_Word ?_
 intro g3 w1 n3
 have e3 := Nat.le_trans bel.size n3.ge
 have l3 := Nat.lt_of_lt_of_le k99.lt n3.ge
 replace bel := bel.step n3.below
 replace k99 := k99.step n3.below
 have k3 := n3.blk
 refine Zo 4 k3 ?_
 intro w2 pw2
 replace bel := bel.put k3 pw2 e3
 replace k99 := k99.put pw2 (by omega)
 replace k3 := pw2.blk
 refine Zk3 0 2 3 (Zts (Zsr ?_))
 refine Zf 0 Tryz.underlying95 ?_
 refine Zv (Runs.loadB rfl rfl Tryz.underlying3 rfl k3 rfl) ?_
 refine Zv (Runs.neqI rfl rfl rfl) ?_
 refine Zm ?_
 refine SeqC.start ?_
 refine Zco (fun hcx => Runs.fieldB 1 rfl rfl Tryz.underlying95 rfl (by kernel_rfl)) ?_
 refine SeqC.next rfl rfl rfl rfl rfl rfl rfl (fun hcx => Runs.loadB rfl rfl Tryz.underlying9 rfl k3 rfl) ?_
 refine SeqC.nextC rfl rfl rfl rfl rfl rfl rfl (fun hcx => Ze Tryz.func100) (fun hcx => hres _) ?_
 intro w3 hw3
 replace bel := bel.step hw3
 replace k99 := k99.step hw3
 replace k3 := k3.step hw3
 refine SeqC.or rfl rfl rfl rfl rfl rfl rfl ?_
 refine Zk4 0 2 3 13 (Zt ?_)
 refine Cd.cond rfl (fun hc => ?_) (fun hc => ?_)
 ·have hc : ¬ ((K.at_ p).kind = 3 ∧ reservedB (K.at_ p).text = false) := by
   rintro ⟨c1, c2⟩
   simp [c1, c2] at hc
  rw [if_neg hc] at hq
  refine Zr ?_
  refine Zm ?_
  refine Seq.callB (Ze Tryz.func50) rfl (fail_any K.g _) ?_
  rintro e w6 ⟨rfl, hb6⟩
  refine ⟨_, rfl, fun a ha => ⟨ha.defers, ?_⟩⟩
  rw [hq]
  exact ⟨bel.step hb6, rfl, d, ⟨k99.step hb6, h.rd.below ((bel.step hb6).below (by have := hK.le; omega) hK.le), h.p_le, h.d_le⟩⟩
 ·have hc : (K.at_ p).kind = 3 ∧ reservedB (K.at_ p).text = false := by
   simpa using hc
  rw [if_pos hc] at hq
  have hp : p + 1 ≤ K.ws.length := by
   rcases Nat.lt_or_ge p K.ws.length with hp | hp
   ·exact hp
   ·have h1 : (K.at_ p).kind = -1 := by unfold Ctx.at_; rw [List.getD_eq_getElem?_getD, List.getElem?_eq_none hp]; rfl
    rw [h1] at hc
    exact absurd hc.1 (by decide)
  refine Cd.skip (Ztq ?_)
  refine Zm ?_
  refine Zv (Runs.nilCheck rfl rfl) ?_
  refine Zf 1 Tryz.underlying92 ?_
  refine Zv (Runs.loadB rfl rfl Tryz.underlying3 rfl k99 rfl) ?_
  refine Za_ ?_
  refine Zv (Runs.nilCheck rfl rfl) ?_
  refine Zf 1 Tryz.underlying92 ?_
  refine Zq k99 ?_
  intro w4 pw4
  replace bel := bel.put k99 pw4 e99
  replace k3 := k3.put pw4 (by omega)
  replace k99 := pw4.blk
  refine Zk4 0 2 3 13 (Ztq ?_)
  refine Zf 1 Tryz.underlying95 ?_
  refine Zv (Runs.loadB rfl rfl Tryz.underlying9 rfl k3 rfl) ?_
  refine Za ?_
  refine Zk4 0 2 3 13 (Zt (Cd.ret ?_))
  refine Post.end1 rfl rfl (.inl rfl) ?_
  rw [hq]
  exact ⟨bel, _, rfl, h.next hK.le hp bel k99, rfl⟩
end Go.Proofs.YtaamkfajnpobfaaGreat

namespace Go.Proofs.YtaamkfajnpobfaaGreat
open Go.RowKit

theorem Ctx.Ok.le_of {K : Ctx} (hK : K.Ok) {w : World} {p d : Nat} {ov : Bool} (h : PW K w p d ov) : K.B ≤ w.heap.size := by have := hK.le; have := h.blk.lt; omega
theorem signQ_ne (ws : List Wd) (s : List Nat) (p : Nat) : signQ ws s p ≠ .out := by unfold signQ; split <;> simp
theorem enterP_ne (p d : Nat) : enterP p d ≠ .out := by unfold enterP; split <;> simp
theorem nameP_ne (ws : List Wd) (p : Nat) : nameP ws p ≠ .out := by unfold nameP; split <;> simp
theorem partsP_cons {α : Type} (ws : List Wd) (one : Nat → Nat → Rs α) (r : List (Nat → Nat → Rs α)) (first : Bool) (p d : Nat) : partsP ws (one :: r) first p d = (if first = true then Rs.ok () p else signQ ws [44] p).bind fun _ p => (one p d).bind fun x p => (partsP ws r false p d).bind fun xs p => .ok (x :: xs) p := rfl
theorem PW.deep {K : Ctx} {w : World} {p d : Nat} (h : PW K w p d false) : d ≤ 64 := by
 rcases h.d_le with h | ⟨h, -⟩
 ·exact h
 ·cases h
theorem PRh.mono {α : Type} {K : Ctx} {h d : Nat} {w w' : World} {r : Rs α} {ok1 ok2 : α → Value → World → Prop} {e : Ending} (hr : PRh K h w d r ok1 e w') (hm : ∀ a v w', ok1 a v w' → ok2 a v w') : PRh K h w d r ok2 e w' := by
 refine ⟨hr.1, ?_⟩
 cases r with
 | out => exact hr.2
 | bad p o => exact hr.2
 | ok a p => obtain ⟨v, h1, h2, h3⟩ := hr.2; exact ⟨v, h1, h2, hm _ _ _ h3⟩
theorem within_any {α : Type} (K : Ctx) (hK : K.Ok) (h0 : Nat) (ones : List (Nat → Nat → Rs α)) (fs : List (Nat × List Value)) (AP : Option Addr) (cP : Nat) (M : List α → World → Prop) (p d : Nat) (w : World) (h : PW K w p d false) (hh0 : h0 ≤ w.heap.size)
  (hlen : fs.length = ones.length) (hn : ones.length ≤ 10) (hM0 : M [] w) (hMs : ∀ (xs : List α) (W W' : World) (p d : Nat), M xs W → PW K W p d false → Fz W.heap.size K.g W W' → M xs W')
  (hMr : ∀ (xs : List α) (W : World) (i f : Nat) (cp : List Value), M xs W → fs[i]? = some (f, cp) → ∃ ad, AP = some ad ∧ W.cell? (ad.add i) = some (.func (.func f) #[] cp.toArray))
  (heg : ∀ (i f : Nat) (cp : List Value), fs[i]? = some (f, cp) → ∀ args w, (callFunc f args).run Tryz.prog w = .ok (.enter f args) w)
  (hone : ∀ (i f : Nat) (cp : List Value) (one : Nat → Nat → Rs α), fs[i]? = some (f, cp) → ones[i]? = some one → ∀ (xs : List α) (W : World) (p : Nat), xs.length = i → PW K W p (d + 1) false → h0 ≤ W.heap.size → M xs W → one p (d + 1) ≠ .out → Calls Tryz.prog f cp.toArray W (PRh K h0 W (d + 1) (one p (d + 1)) fun x _ W' => M (xs ++ [x]) W'))
  (hne : withinP K.ws ones p d ≠ .out) :
  Calls Tryz.prog 51 #[.pointer (some ⟨K.g, 0, none⟩), .slice AP fs.length cP] w (PRh K h0 w d (withinP K.ws ones p d) fun xs _ W' => M xs W') := by
 have bel := Fz.refl h0 K.g w
 have pw := h
 have e99 : K.g = K.g := rfl
 have hlt := h.blk.lt
 have hle := hK.le
 obtain ⟨R, hR⟩ : ∃ R, R = withinP K.ws ones p d := ⟨_, rfl⟩
 rw [← hR] at hne ⊢
 have hRu : R = (signQ K.ws [40] p).bind fun _ p => (enterP p d).bind fun _ p => (partsP K.ws ones true p (d + 1)).bind fun xs p => (signQ K.ws [41] p).bind fun _ p => .ok xs p := hR
 clear hR
 have hsg := signQ_any K hK p d [40] w h (by decide)
 refine Zs 33 Tryz.func51 ?_
 refine Zsr ?_
 refine Zm ?_
 rcases Rs.ok_or (signQ_ne K.ws [40] p) with ⟨p1, o1, hr1⟩ | ⟨u1, p1, hr1⟩
 ·rw [hr1] at hsg hRu
  refine Seq.callB (Ze Tryz.func98) rfl hsg ?_
  rintro e w6 ⟨hf, rfl, d6, hp6⟩
  refine ⟨_, rfl, fun a ha => ⟨ha.defers, ?_⟩⟩
  rw [hRu]
  exact ⟨hf.less hh0, rfl, d6, hp6⟩
 rw [hr1] at hsg hRu
 replace hRu : R = (enterP p1 d).bind fun _ p => (partsP K.ws ones true p (d + 1)).bind fun xs p => (signQ K.ws [41] p).bind fun _ p => .ok xs p := hRu
 refine Zc (Ze Tryz.func98) (hsg) ?_
 rintro e w5 ⟨hf5, v5, rfl, pw, -⟩
 refine ⟨_, rfl, ?_⟩
 replace bel := bel.call hf5 hh0
 have hs5 := bel.size
 have hM5 := hMs _ _ _ _ _ hM0 h hf5
 have hen := enter_any K hK p1 d w5 pw
 have pwo := pw
 refine Zk2 0 1 (Ztq ?_)
 refine Zm ?_
 rcases Rs.ok_or (enterP_ne p1 d) with ⟨p2, o2, hr2⟩ | ⟨u2, p2, hr2⟩
 ·rw [hr2] at hen hRu
  refine Seq.callB (Ze Tryz.func99) rfl hen ?_
  rintro e w6 ⟨hf, rfl, d6, hp6⟩
  refine ⟨_, rfl, fun a ha => ⟨ha.defers, ?_⟩⟩
  rw [hRu]
  exact ⟨bel.call hf hh0, rfl, d6, hp6⟩
 rw [hr2] at hen hRu
 replace hRu : R = (partsP K.ws ones true p2 (d + 1)).bind fun xs p => (signQ K.ws [41] p).bind fun _ p => .ok xs p := hRu
 refine Zc (Ze Tryz.func99) (hen) ?_
 rintro e w6 ⟨hf6, v6, rfl, pw, -⟩
 refine ⟨_, rfl, ?_⟩
 replace bel := bel.call hf6 hh0
 have hs6 := bel.size
 have hM6 := hMs _ _ _ _ _ hM5 pwo hf6
 obtain ⟨R0, hR0⟩ : ∃ R0, R0 = partsP K.ws ones true p2 (d + 1) := ⟨_, rfl⟩
 rw [← hR0] at hRu
 have hne0 : R0 ≠ .out := Rs.bind_ne (by rw [← hRu]; exact hne)
 refine Zk2 0 1 (Zts (Zsr ?_))
 refine Zm ?_
 refine Zv (Runs.len rfl rfl Tryz.underlying101) ?_
 refine Zm ?_
 refine Zk5 0 1 10 11 12 (Zt (Cd.block ?_))
 refine Cd.loop (σ := Nat × Nat × List α) (fun s => [(0, .pointer (some ⟨K.g, 0, none⟩)), (10, .slice AP fs.length cP), (11, .int .i64 (fs.length : Int)), (12, .int .i64 (s.1 : Int))])
  (fun s wr => s.1 ≤ ones.length ∧ PW K wr s.2.1 (d + 1) false ∧ Fz h0 K.g w wr ∧ M s.2.2 wr ∧ s.2.2.length = s.1 ∧ R0 = (partsP K.ws (ones.drop s.1) (decide (s.1 = 0)) s.2.1 (d + 1)).bind fun ys p => .ok (s.2.2 ++ ys) p)
  (fun s => ones.length - s.1) (0, p2, []) ⟨Nat.zero_le _, pw, bel, hM6, rfl, by rw [hR0]; show _ = (partsP K.ws ones true p2 (d + 1)).bind _; cases partsP K.ws ones true p2 (d + 1) <;> rfl⟩ ⟨rfl, rfl, rfl, rfl, trivial⟩ ?_
 clear bel pw hM6 hM5 hM0 hR0
 rintro ⟨i, pi, xs⟩ wr ⟨hi, pw, bel, hM, hxl, hinv⟩
 dsimp only at hi pw hM hxl hinv ⊢
 have hsr := bel.size
 refine Zsr ?_
 refine Zv (Runs.lss rfl rfl rfl) ?_
 refine Zk5 0 10 11 12 13 (Zts ?_)
 refine Cd.condD rfl (fun hc => ?_) (fun hc => ?_)
 ·obtain ⟨one, ho⟩ : ∃ one, ones[i]? = some one := ⟨_, List.getElem?_eq_getElem (by omega)⟩
  obtain ⟨⟨f, cp⟩, hfc⟩ : ∃ f, fs[i]? = some f := ⟨_, List.getElem?_eq_getElem (by omega)⟩
  obtain ⟨ad, hA, hcl⟩ := hMr xs wr i f cp hM hfc
  have hdr : ones.drop i = one :: ones.drop (i + 1) := by
   have hlt := (List.getElem?_eq_some_iff.1 ho).1
   rw [List.drop_eq_getElem_cons hlt]
   rw [List.getElem?_eq_getElem hlt] at ho
   injection ho with ho
   rw [ho]
  rw [hdr] at hinv
  rw [hA]
  refine Cd.skip (Zts (Cd.block (Zsr ?_)))
  refine Zm ?_
  refine Zv (Runs.index1 rfl rfl rfl Tryz.underlying101 (by kernel_rfl) (j := i) rfl (by omega)) ?_
  refine Zv (Runs.load1 rfl rfl Tryz.underlying1 rfl hcl) ?_
  refine Za ?_
  refine Za ?_
  refine Zk7 0 4 5 10 11 12 13 (Zt ?_)
  refine Cd.seqJ (σ := Nat) (fun _ => [(0, .pointer (some ⟨K.g, 0, none⟩)), (5, .func (.func f) #[] cp.toArray), (10, .slice (some ad) fs.length cP), (11, .int .i64 (fs.length : Int)), (12, .int .i64 (i : Int))]) (fun pj wj => PW K wj pj (d + 1) false ∧ Fz h0 K.g w wj ∧ M xs wj ∧ R0 = (one pj (d + 1)).bind fun x p => (partsP K.ws (ones.drop (i + 1)) false p (d + 1)).bind fun ys p => .ok (xs ++ (x :: ys)) p) ?_ ?_
  ·skip
   refine Zsr ?_
   refine Zm ?_
   refine Zv (Runs.gtr rfl rfl rfl) ?_
   refine Zk8 0 4 5 10 11 12 13 18 (Zt ?_)
   refine Cd.condD rfl (fun hc => ?_) (fun hc => ?_)
   ·have hinv : R0 = (signQ K.ws [44] pi).bind fun _ p => (one p (d + 1)).bind fun x p => (partsP K.ws (ones.drop (i + 1)) false p (d + 1)).bind fun ys p => .ok (xs ++ (x :: ys)) p := by
     rw [hinv, partsP_cons, decide_eq_false (show ¬ i = 0 by omega), if_neg (by decide)]
     simp only [Rs.bind_assoc]
     rfl
    have hsg := signQ_any K hK pi (d + 1) [44] wr pw (by decide)
    have pwo := pw
    refine Zr ?_
    refine Zm ?_
    rcases Rs.ok_or (signQ_ne K.ws [44] pi) with ⟨p1, o1, hr1⟩ | ⟨u1, p1, hr1⟩
    ·rw [hr1] at hsg hinv
     refine Seq.callB (Ze Tryz.func98) rfl hsg ?_
     rintro e w7 ⟨hf, rfl, d6, hp6⟩
     refine ⟨_, rfl, fun a ha => ⟨ha.defers, ?_⟩⟩
     rw [hRu, hinv]
     exact ⟨bel.call hf hh0, rfl, d6, hp6⟩
    rw [hr1] at hsg hinv
    refine Zc (Ze Tryz.func98) (hsg) ?_
    rintro e w7 ⟨hf7, v7, rfl, pw, -⟩
    refine ⟨_, rfl, ?_⟩
    refine Zk8 0 4 5 10 11 12 13 18 ?_
    exact Post.join p1 ⟨rfl, rfl, rfl, rfl, rfl, trivial⟩ ⟨pw, bel.call hf7 hh0, hMs _ _ _ _ _ hM pwo hf7, hinv⟩
   ·obtain rfl : i = 0 := by omega
    refine Cd.skip ?_
    refine Post.join pi ⟨rfl, rfl, rfl, rfl, rfl, trivial⟩ ⟨pw, bel, hM, ?_⟩
    rw [hinv, partsP_cons, decide_eq_true rfl, if_pos rfl]
    simp only [Rs.bind_assoc, Rs.bind_ok]
  clear bel pw hM hinv
  rintro pj wj ⟨pw, bel, hM, hinv⟩
  have hsj := bel.size
  have hne1 : one pj (d + 1) ≠ .out := Rs.bind_ne (by rw [← hinv]; exact hne0)
  have hcall := hone i f cp one hfc ho xs wj pj hxl pw (by omega) hM hne1
  refine Zr ?_
  refine Zm ?_
  rcases Rs.ok_or hne1 with ⟨p1, o1, hr1⟩ | ⟨x, p1, hr1⟩
  ·rw [hr1] at hcall hinv
   refine Seq.callB (Enters.value (first := []) (cap := cp) rfl rfl rfl (heg i f cp hfc)) rfl hcall ?_
   rintro e w7 ⟨hf, rfl, d6, hp6⟩
   refine ⟨_, rfl, fun a ha => ⟨ha.defers, ?_⟩⟩
   rw [hRu, hinv]
   exact ⟨bel.trans hf, rfl, d6, hp6⟩
  rw [hr1] at hcall hinv
  refine Seq.call (Enters.value (first := []) (cap := cp) rfl rfl rfl (heg i f cp hfc)) rfl rfl rfl hcall ?_
  rintro e w7 ⟨hf7, v7, rfl, pw, hM⟩
  refine ⟨_, rfl, ?_⟩
  refine Zk5 0 5 10 11 12 (Post.block_normal (Ztr ?_))
  refine Za_ ?_
  refine Zm ?_
  refine Zk5 0 5 10 11 12 ?_
  refine Post.round (i + 1, p1, xs ++ [x]) ⟨rfl, rfl, rfl, rfl, trivial⟩ ⟨by dsimp only; omega, pw, bel.trans hf7, hM, by dsimp only; rw [List.length_append, hxl]; rfl, ?_⟩ (by dsimp only; omega)
  dsimp only
  rw [hinv, decide_eq_false (show ¬ i + 1 = 0 by omega), Rs.bind_ok]
  simp only [List.append_assoc, List.cons_append, List.nil_append]
 ·obtain rfl : i = ones.length := by omega
  rw [List.drop_of_length_le (Nat.le_refl _)] at hinv
  have hinv : R0 = .ok xs pi := by rw [hinv]; unfold partsP; rw [Rs.bind_ok, List.append_nil]
  rw [hinv] at hRu
  replace hRu : R = (signQ K.ws [41] pi).bind fun _ p => .ok xs p := hRu
  have hsg := signQ_any K hK pi (d + 1) [41] wr pw (by decide)
  have pwo := pw
  refine Cd.exit (Post.then_exit (Post.round_exit (Post.block_exit (Ztq ?_))))
  refine Zm ?_
  rcases Rs.ok_or (signQ_ne K.ws [41] pi) with ⟨p1, o1, hr1⟩ | ⟨u1, p1, hr1⟩
  ·rw [hr1] at hsg hRu
   refine Seq.callB (Ze Tryz.func98) rfl hsg ?_
   rintro e w7 ⟨hf, rfl, d6, hp6⟩
   refine ⟨_, rfl, fun a ha => ⟨ha.defers, ?_⟩⟩
   rw [hRu]
   exact ⟨bel.call hf hh0, rfl, d6, hp6⟩
  rw [hr1] at hsg hRu
  refine Zc (Ze Tryz.func98) (hsg) ?_
  rintro e w7 ⟨hf7, v7, rfl, pw, -⟩
  refine ⟨_, rfl, ?_⟩
  replace bel := bel.call hf7 hh0
  have hM := hMs _ _ _ _ _ hM pwo hf7
  have k99 := pw.blk
  have hd64 := pw.deep
  have loc := Fz.refl w7.heap.size K.g w7
  refine Zk5 0 10 11 12 13 (Ztr ?_)
  refine Zm ?_
  refine Zv (Runs.nilCheck rfl rfl) ?_
  refine Zf 2 Tryz.underlying92 ?_
  refine Zv (Runs.loadB rfl rfl Tryz.underlying3 rfl k99 rfl) ?_
  refine Zv (Runs.subI rfl rfl rfl (by omega) (by omega)) ?_
  refine Zv (Runs.nilCheck rfl rfl) ?_
  refine Zf 2 Tryz.underlying92 ?_
  refine Zq k99 ?_
  intro w1 pw1
  replace bel := bel.put k99 pw1 e99
  replace loc := loc.put k99 pw1 e99
  replace k99 := pw1.blk
  refine Zk5 0 10 11 12 13 ?_
  refine Post.end0 rfl (.inr rfl) ?_
  rw [hRu]
  have hcast : ((d + 1 : Nat) : Int) - 1 = (d : Int) := by omega
  rw [hcast] at k99
  exact ⟨bel, _, rfl, ⟨k99, pw.rd.below (loc.below (hK.le_of pw) hle), pw.p_le, .inl (by omega)⟩, hMs _ _ _ _ _ hM pw loc⟩
end Go.Proofs.YtaamkfajnpobfaaGreat

