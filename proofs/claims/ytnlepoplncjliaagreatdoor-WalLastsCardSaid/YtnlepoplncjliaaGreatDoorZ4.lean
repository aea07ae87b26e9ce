/-
  Texts that were joined: WiB, WiC, WiD, WiE, WiF, WgD, WgE, WgF, WjA, WiG, WiH, WiI, WiJ, WiK, WfC, WiM, WiL, WiN, WjD. Conditions: what each theorem names.
-/
import Derived.Test.YtnlepoplncjliaaGreatDoorZ3
set_option linter.unusedSectionVars false
namespace Go.Proofs.YtnlepoplncjliaaGreatDoor
open Go.RowKit

def pat : Nat → Nat
  | 0 => 0
  | m + 1 => 165 + 256 * pat m
set_option maxRecDepth 100000 in
theorem pat_chk : ∀ j, j < 65 → itS (8 * j) (pat j) < 4294967296 ∧ (j ≠ 0 → itS (8 * j) (pat j) ≠ 0) ∧ ∀ d, d < 5 → 0 < d → itS (8 * j) (pat j) ≠ pat d := by decide +kernel
theorem pat_div (m : Nat) : ∀ j, pat m / 2 ^ (8 * j) = pat (m - j)
  | 0 => by simp
  | j + 1 => by
    rw [Nat.mul_add, Nat.pow_add, ← Nat.div_div_eq_div_mul, pat_div m j]
    have e : (2 : Nat) ^ (8 * 1) = 256 := by decide
    rw [e]
    cases h : m - j with
    | zero =>
      rw [show m - (j + 1) = 0 by omega]
      rfl
    | succ k =>
      rw [show m - (j + 1) = k by omega]
      show (165 + 256 * pat k) / 256 = pat k
      omega
theorem pat_mod : ∀ (j m : Nat), pat m % 2 ^ (8 * j) = pat (min m j)
  | 0, m => by simp [pat, Nat.mod_one]
  | j + 1, 0 => by simp [pat]
  | j + 1, m + 1 => by
    have ih := pat_mod j m
    rw [Nat.mul_add, Nat.pow_add, Nat.mul_comm (2 ^ (8 * j)), show (2 : Nat) ^ (8 * 1) = 256 by decide, Nat.mod_mul, Nat.succ_min_succ]
    have h1 : pat (m + 1) % 256 = 165 := by unfold pat; omega
    have h2 : pat (m + 1) / 256 = pat m := by
      show (165 + 256 * pat m) / 256 = pat m
      omega
    rw [h1, h2, ih]
    rfl
theorem pat_big {d : Nat} (h : 5 ≤ d) : 4294967296 ≤ pat d := by
  obtain ⟨k, rfl⟩ : ∃ k, d = k + 5 := ⟨d - 5, by omega⟩
  simp only [pat]
  omega
theorem pat_split {j m : Nat} (h : j ≤ m) : pat m = 2 ^ (8 * j) * pat (m - j) ^^^ pat j := by
  have h1 := pat_div m j
  have h2 := pat_mod j m
  rw [Nat.min_eq_right h] at h2
  have hlt : pat j < 2 ^ (8 * j) := by rw [← h2]; exact Nat.mod_lt _ (Nat.two_pow_pos _)
  rw [← xor_split hlt, ← h1, ← h2]
  have := Nat.div_add_mod (pat m) (2 ^ (8 * j))
  rw [h2] at this
  rw [h2]
  exact this.symm
/-- A sector of at most 64 bytes turned. -/
def PatN (E : Nat) : Prop := ∃ a m, m ≤ 64 ∧ E = 2 ^ (8 * a) * pat m
theorem PatN.div {E : Nat} (h : PatN E) (k : Nat) : PatN (E / 2 ^ (8 * k)) := by
  obtain ⟨a, m, hm, rfl⟩ := h
  by_cases hk : k ≤ a
  · refine ⟨a - k, m, hm, ?_⟩
    rw [show (2 : Nat) ^ (8 * a) = 2 ^ (8 * k) * 2 ^ (8 * (a - k)) by rw [← Nat.pow_add]; congr 1; omega, Nat.mul_assoc, Nat.mul_div_cancel_left _ (Nat.two_pow_pos _)]
  · refine ⟨0, m - (k - a), by omega, ?_⟩
    rw [show (2 : Nat) ^ (8 * k) = 2 ^ (8 * a) * 2 ^ (8 * (k - a)) by rw [← Nat.pow_add]; congr 1; omega, Nat.mul_div_mul_left _ _ (Nat.two_pow_pos _), pat_div]
    simp
theorem PatN.mod {E : Nat} (h : PatN E) (k : Nat) : PatN (E % 2 ^ (8 * k)) := by
  obtain ⟨a, m, hm, rfl⟩ := h
  by_cases hk : k ≤ a
  · refine ⟨0, 0, by decide, ?_⟩
    rw [show (2 : Nat) ^ (8 * a) = 2 ^ (8 * k) * 2 ^ (8 * (a - k)) by rw [← Nat.pow_add]; congr 1; omega, Nat.mul_assoc, Nat.mul_mod_right]
    rfl
  · refine ⟨a, min m (k - a), by omega, ?_⟩
    rw [show (2 : Nat) ^ (8 * k) = 2 ^ (8 * a) * 2 ^ (8 * (k - a)) by rw [← Nat.pow_add]; congr 1; omega, Nat.mul_mod_mul_left, pat_mod]
theorem pat_pos {m : Nat} (h : m ≠ 0) : 0 < pat m := by
  obtain ⟨k, rfl⟩ : ∃ k, m = k + 1 := ⟨m - 1, by omega⟩
  unfold pat
  omega
theorem pat_told {E L : Nat} (h : PatN E) (hlt : E < 2 ^ (8 * L + 32)) (h0 : itS (8 * L) E = 0) : E = 0 := by
  obtain ⟨a, m, hm, rfl⟩ := h
  by_cases hz : m = 0
  · rw [hz]; rfl
  exfalso
  have hp := pat_pos hz
  by_cases hL : L ≤ a
  · rw [show (2 : Nat) ^ (8 * a) = 2 ^ (8 * L) * 2 ^ (8 * (a - L)) by rw [← Nat.pow_add]; congr 1; omega, Nat.mul_assoc, itS_pow] at h0
    rcases Nat.mul_eq_zero.1 h0 with h1 | h1
    · have := Nat.two_pow_pos (8 * (a - L)); omega
    · omega
  · rw [show 8 * L = 8 * a + 8 * (L - a) by omega, itS_add, itS_pow] at h0
    obtain ⟨j, hj⟩ : ∃ j, j = L - a := ⟨_, rfl⟩
    rw [← hj] at h0
    by_cases hjm : m ≤ j
    · rw [show 8 * j = 8 * m + 8 * (j - m) by omega, itS_add] at h0
      obtain ⟨c1, c2, -⟩ := pat_chk m (by omega)
      exact c2 hz (itS_zero c1 h0)
    · rw [pat_split (show j ≤ m by omega), itS_xor, itS_pow] at h0
      obtain ⟨c1, c2, c3⟩ := pat_chk j (by omega)
      have e : itS (8 * j) (pat j) = pat (m - j) := by
        have := congrArg (fun z => pat (m - j) ^^^ z) h0
        simp only [← Nat.xor_assoc, Nat.xor_self, Nat.zero_xor, Nat.xor_zero] at this
        exact this
      by_cases hd : m - j < 5
      · exact c3 (m - j) hd (by omega) e
      · have := pat_big (show 5 ≤ m - j by omega)
        omega
/-- Two lists of bytes that differ by a sector turned. -/
structure Sect (s t : List Nat) : Prop where
  len : s.length = t.length
  bs : Byt s
  bt : Byt t
  ex : PatN (valL s ^^^ valL t)
theorem Sect.take {s t : List Nat} (h : Sect s t) (k : Nat) : Sect (s.take k) (t.take k) := by
  refine ⟨by rw [List.length_take, List.length_take, h.len], h.bs.take k, h.bt.take k, ?_⟩
  rw [valL_take k h.bs, valL_take k h.bt, ← Nat.xor_mod_two_pow]
  exact h.ex.mod _
theorem Sect.drop {s t : List Nat} (h : Sect s t) (k : Nat) : Sect (s.drop k) (t.drop k) := by
  refine ⟨by rw [List.length_drop, List.length_drop, h.len], h.bs.drop k, h.bt.drop k, ?_⟩
  rw [valL_drop k h.bs, valL_drop k h.bt, ← Nat.xor_div_two_pow]
  exact h.ex.div _
theorem Sect.valid {x y c d : List Nat} (h : Sect (x ++ c) (y ++ d)) (hl : x.length = y.length) (hc : laidC x = c) (hd : laidC y = d) : x ++ c = y ++ d := by
  have hcl : c.length = 4 := by rw [← hc]; exact laidC_len x
  have hdl : d.length = 4 := by rw [← hd]; exact laidC_len y
  have hx := h.bs.left
  have hy := h.bt.left
  have e1 : (x ++ c).take x.length = x := List.take_left
  have e2 : (x ++ c).drop x.length = c := List.drop_left
  have e3 : (y ++ d).take x.length = y := by rw [hl]; exact List.take_left
  have e4 : (y ++ d).drop x.length = d := by rw [hl]; exact List.drop_left
  obtain ⟨E, hE⟩ : ∃ E, E = valL (x ++ c) ^^^ valL (y ++ d) := ⟨_, rfl⟩
  have hX : valL x ^^^ valL y = E % 2 ^ (8 * x.length) := by
    have a := valL_take x.length h.bs
    have b := valL_take x.length h.bt
    rw [e1] at a
    rw [e3] at b
    rw [a, b, ← Nat.xor_mod_two_pow, hE]
  have hC : valL c ^^^ valL d = E / 2 ^ (8 * x.length) := by
    have a := valL_drop x.length h.bs
    have b := valL_drop x.length h.bt
    rw [e2] at a
    rw [e4] at b
    rw [a, b, ← Nat.xor_div_two_pow, hE]
  have hrel : valL c ^^^ valL d = itS (8 * x.length) (valL x ^^^ valL y) := by
    rw [← hc, ← hd, valL_laid hx, valL_laid hy, ← hl, itS_xor, itS_xor, itS_xor]
    generalize itS (8 * x.length) 4294967295 = M
    generalize itS (8 * x.length) (valL x) = a
    generalize itS (8 * x.length) (valL y) = b
    rw [show 4294967295 ^^^ (M ^^^ a) ^^^ (4294967295 ^^^ (M ^^^ b)) = (4294967295 ^^^ 4294967295) ^^^ ((M ^^^ M) ^^^ (a ^^^ b)) by ac_rfl, Nat.xor_self, Nat.xor_self, Nat.zero_xor, Nat.zero_xor]
  have h0 : itS (8 * x.length) E = 0 := by
    have hs : E = 2 ^ (8 * x.length) * (E / 2 ^ (8 * x.length)) ^^^ E % 2 ^ (8 * x.length) := by
      rw [← xor_split (Nat.mod_lt _ (Nat.two_pow_pos _))]
      exact (Nat.div_add_mod E _).symm
    rw [hs, itS_xor, itS_pow, ← hX, ← hC, hrel, Nat.xor_self]
  have hz : E = 0 := by
    have hx := h.ex
    rw [← hE] at hx
    have hlt : E < 2 ^ (8 * x.length + 32) := by
      rw [hE]
      have l1 := valL_lt h.bs
      have l2 := valL_lt h.bt
      rw [List.length_append, hcl, Nat.mul_add] at l1
      rw [List.length_append, hdl, ← hl, Nat.mul_add] at l2
      exact Nat.xor_lt_two_pow l1 l2
    exact pat_told hx hlt h0
  refine valL_inj h.bs h.bt h.len ?_
  have := congrArg (fun z => z ^^^ valL (y ++ d)) (hE.symm.trans hz)
  simpa [Nat.xor_assoc] using this
/-- What is whole behind a turned sector is what it was. -/
theorem Sect.frame {d r t : List Nat} (h : Sect (frameN d ++ r) t) (hd : Byt d) (hdl : d.length ≤ 131072) (hw : (openN t).2.2 = 0) : t.take (d.length + 12) = frameN d := by
  have hfl := frameN_len d
  have htl : t.length = d.length + 12 + r.length := by rw [← h.len, List.length_append, hfl]
  obtain ⟨X, hX⟩ : ∃ X, X = beB 4 d.length := ⟨_, rfl⟩
  have hXl : X.length = 4 := by rw [hX, beB_len]
  have hf : frameN d ++ r = (X ++ laidC X) ++ ((d ++ laidC d) ++ r) := by unfold frameN; rw [← hX]; simp
  have hv : valB X = d.length := by rw [hX]; exact valB_be (by rw [show (256 : Nat) ^ 4 = 4294967296 by decide]; omega)
  unfold openN at hw
  split at hw
  · cases hw
  rename_i h1
  split at hw
  · cases hw
  rename_i h2
  split at hw
  · cases hw
  rename_i h3
  split at hw
  · cases hw
  rename_i h4
  have hla : laidC (t.take 4) = (t.drop 4).take 4 := by
    by_cases e : laidC (t.take 4) = (t.drop 4).take 4
    · exact e
    · exact absurd (.inl e) h2
  have e8 : (frameN d ++ r).take 8 = X ++ laidC X := by rw [hf]; exact List.take_left' (by rw [List.length_append, hXl, laidC_len])
  have t8 : t.take 8 = t.take 4 ++ (t.drop 4).take 4 := by
    rw [show (8 : Nat) = 4 + 4 from rfl, List.take_add]
  have b8 := h.take 8
  rw [e8, t8] at b8
  have q8 := b8.valid (by rw [hXl, List.length_take]; omega) rfl hla
  have qX : t.take 4 = X := by
    have := congrArg (List.take 4) q8
    rw [List.take_left' hXl, List.take_left' (by rw [List.length_take]; omega)] at this
    exact this.symm
  rw [qX, hv] at h4 h3
  have hlb : laidC ((t.drop 8).take d.length) = (t.drop (8 + d.length)).take 4 := by
    by_cases e : laidC ((t.drop 8).take d.length) = (t.drop (8 + d.length)).take 4
    · exact e
    · exact absurd e h4
  have eb : ((frameN d ++ r).drop 8).take (d.length + 4) = d ++ laidC d := by
    rw [hf, List.drop_left' (by rw [List.length_append, hXl, laidC_len])]
    exact List.take_left' (by rw [List.length_append, laidC_len])
  have tb : (t.drop 8).take (d.length + 4) = (t.drop 8).take d.length ++ (t.drop (8 + d.length)).take 4 := by
    rw [List.take_add, List.drop_drop]
  have bb := (h.drop 8).take (d.length + 4)
  rw [eb, tb] at bb
  have qb := bb.valid (by rw [List.length_take, List.length_drop]; omega) rfl hlb
  have : t.take (d.length + 12) = t.take 8 ++ (t.drop 8).take (d.length + 4) := by
    rw [show d.length + 12 = 8 + (d.length + 4) by omega, List.take_add]
  rw [this, tb, ← qb, t8, ← q8]
  unfold frameN
  rw [← hX]
  simp
end Go.Proofs.YtnlepoplncjliaaGreatDoor

namespace Go.Proofs.YtnlepoplncjliaaGreatDoor
open Go.RowKit

theorem valL_app : ∀ {a : List Nat} (b : List Nat), valL (a ++ b) = valL a + 2 ^ (8 * a.length) * valL b
  | [], b => by simp [valL]
  | c :: a, b => by
    have ih := valL_app (a := a) b
    have e : (2 : Nat) ^ (8 * (a.length + 1)) = 256 * 2 ^ (8 * a.length) := by
      rw [Nat.mul_add, Nat.pow_add, show (2 : Nat) ^ (8 * 1) = 256 by decide, Nat.mul_comm]
    rw [List.cons_append, valL, ih, valL, List.length_cons, e, Nat.mul_assoc]
    omega
theorem byt_turn {s : List Nat} (h : Byt s) : Byt (s.map (· ^^^ 165)) := by
  intro d hd
  obtain ⟨c, hc, rfl⟩ := List.mem_map.1 hd
  exact Nat.xor_lt_two_pow (n := 8) (h c hc) (by decide)
theorem valL_turn : ∀ {s : List Nat}, Byt s → valL (s.map (· ^^^ 165)) = valL s ^^^ pat s.length
  | [], _ => rfl
  | c :: s, h => by
    have ih := valL_turn h.tail
    have hc := h c List.mem_cons_self
    have hx : c ^^^ 165 < 256 := Nat.xor_lt_two_pow (n := 8) hc (by decide)
    have e : pat (s.length + 1) = (2 ^ 8 * pat s.length) ^^^ 165 := by
      rw [← xor_split (show (165 : Nat) < 2 ^ 8 by decide)]
      show 165 + 256 * pat s.length = _
      omega
    have hm : ∀ a b : Nat, 2 ^ 8 * (a ^^^ b) = 2 ^ 8 * a ^^^ 2 ^ 8 * b := fun a b => by
      apply Nat.eq_of_testBit_eq
      intro j
      rw [Nat.testBit_two_pow_mul, Nat.testBit_xor, Nat.testBit_xor, Nat.testBit_two_pow_mul, Nat.testBit_two_pow_mul]
      cases decide (j ≥ 8) <;> simp
    rw [List.map_cons, valL_cons _ hx, ih, valL_cons _ hc, List.length_cons, e, hm]
    ac_rfl
/-- A stretch of at most 64 bytes turned. -/
theorem sect_of {X Y Z : List Nat} (hX : Byt X) (hY : Byt Y) (hZ : Byt Z) (hl : Y.length ≤ 64) : Sect (X ++ Y ++ Z) (X ++ Y.map (· ^^^ 165) ++ Z) := by
  have hY' := byt_turn hY
  refine ⟨by simp, (hX.app hY).app hZ, (hX.app hY').app hZ, X.length, Y.length, hl, ?_⟩
  have hlt : ∀ {a : List Nat}, Byt a → valL a < 2 ^ (8 * a.length) := fun h => valL_lt h
  have e1 : valL (X ++ Y ++ Z) = (2 ^ (8 * (X.length + Y.length)) * valL Z) ^^^ ((2 ^ (8 * X.length) * valL Y) ^^^ valL X) := by
    rw [← xor_split (hlt hX), valL_app, valL_app, List.length_append]
    rw [← xor_split (by
      have h1 := hlt (hX.app hY)
      rw [valL_app, List.length_append] at h1
      omega)]
    omega
  have e2 : valL (X ++ Y.map (· ^^^ 165) ++ Z) = (2 ^ (8 * (X.length + Y.length)) * valL Z) ^^^ ((2 ^ (8 * X.length) * valL (Y.map (· ^^^ 165))) ^^^ valL X) := by
    rw [← xor_split (hlt hX), valL_app, valL_app, List.length_append, List.length_map]
    rw [← xor_split (by
      have h1 := hlt (hX.app hY')
      rw [valL_app, List.length_append, List.length_map] at h1
      omega)]
    omega
  have hm : ∀ k a b : Nat, 2 ^ k * (a ^^^ b) = 2 ^ k * a ^^^ 2 ^ k * b := fun k a b => by
    apply Nat.eq_of_testBit_eq
    intro j
    rw [Nat.testBit_two_pow_mul, Nat.testBit_xor, Nat.testBit_xor, Nat.testBit_two_pow_mul, Nat.testBit_two_pow_mul]
    cases decide (j ≥ k) <;> simp
  rw [e1, e2, valL_turn hY, hm]
  generalize 2 ^ (8 * (X.length + Y.length)) * valL Z = z
  generalize 2 ^ (8 * X.length) * valL Y = y
  generalize 2 ^ (8 * X.length) * pat Y.length = p
  generalize valL X = x
  rw [show z ^^^ (y ^^^ x) ^^^ (z ^^^ (y ^^^ p ^^^ x)) = (z ^^^ z) ^^^ ((y ^^^ y) ^^^ ((x ^^^ x) ^^^ p)) by ac_rfl, Nat.xor_self, Nat.xor_self, Nat.xor_self, Nat.zero_xor, Nat.zero_xor, Nat.zero_xor]
theorem Sect.refl {s : List Nat} (h : Byt s) : Sect s s := ⟨rfl, h, h, 0, 0, by decide, by rw [Nat.xor_self]; rfl⟩
theorem openN_more {s : List Nat} (z : List Nat) (h : (openN s).2.2 = 0) : openN (s ++ z) = openN s := by
  unfold openN at h ⊢
  split at h
  · cases h
  rename_i h1
  split at h
  · cases h
  rename_i h2
  split at h
  · cases h
  rename_i h3
  split at h
  · cases h
  rename_i h4
  have t4 : (s ++ z).take 4 = s.take 4 := List.take_append_of_le_length (by omega)
  have d4 : ((s ++ z).drop 4).take 4 = (s.drop 4).take 4 := by
    rw [List.drop_append_of_le_length (by omega), List.take_append_of_le_length (by rw [List.length_drop]; omega)]
  rw [t4, d4]
  generalize valB (s.take 4) = n at *
  have d8 : ((s ++ z).drop 8).take n = (s.drop 8).take n := by
    rw [List.drop_append_of_le_length (by omega), List.take_append_of_le_length (by rw [List.length_drop]; omega)]
  have d9 : ((s ++ z).drop (8 + n)).take 4 = (s.drop (8 + n)).take 4 := by
    rw [List.drop_append_of_le_length (by omega), List.take_append_of_le_length (by rw [List.length_drop]; omega)]
  rw [d8, d9, if_neg (by rw [List.length_append]; omega), if_neg h2, if_neg (by rw [List.length_append]; omega), if_neg h4, if_neg h1, if_neg h2, if_neg h3]
/-- What is whole of a frame of which a front is left, turned: all of it. -/
theorem front_whole {d T : List Nat} (hd : Byt d) (hdl : d.length ≤ 131072) (h : Sect ((frameN d).take T.length) T) (hl : T.length ≤ d.length + 12) (hw : (openN T).2.2 = 0) : T = frameN d := by
  have hfl := frameN_len d
  have hfb := frameN_lt hd
  obtain ⟨Z, hZ⟩ : ∃ Z, Z = (frameN d).drop T.length := ⟨_, rfl⟩
  have hs : Sect (frameN d ++ []) (T ++ Z) := by
    have e : frameN d ++ [] = (frameN d).take T.length ++ Z := by rw [hZ, List.append_nil, List.take_append_drop]
    rw [e]
    have hzb : Byt Z := by rw [hZ]; exact hfb.drop _
    refine ⟨by rw [List.length_append, List.length_append, h.len], h.bs.app hzb, h.bt.app hzb, ?_⟩
    have hlen := h.len
    have l1 := valL_lt h.bs
    have l2 := valL_lt h.bt
    rw [hlen] at l1
    have e1 : valL ((frameN d).take T.length ++ Z) = (2 ^ (8 * T.length) * valL Z) ^^^ valL ((frameN d).take T.length) := by
      rw [← xor_split l1, valL_app, hlen]
      omega
    have e2 : valL (T ++ Z) = (2 ^ (8 * T.length) * valL Z) ^^^ valL T := by
      rw [← xor_split l2, valL_app]
      omega
    rw [e1, e2]
    generalize 2 ^ (8 * T.length) * valL Z = z
    have hx := h.ex
    generalize valL ((frameN d).take T.length) = x at *
    generalize valL T = y at *
    rw [show z ^^^ x ^^^ (z ^^^ y) = (z ^^^ z) ^^^ (x ^^^ y) by ac_rfl, Nat.xor_self, Nat.zero_xor]
    exact hx
  have ho := openN_more Z hw
  have hq := hs.frame hd hdl (by rw [ho]; exact hw)
  have htl : (T ++ Z).length = d.length + 12 := by rw [← hs.len, List.append_nil, hfl]
  rw [List.take_of_length_le (by omega)] at hq
  have h3 := openN_frame (s := d) [] hdl
  rw [List.append_nil, ← hq, ho] at h3
  have h4 := openN_whole hw
  rw [h3] at h4
  have : Z = [] := by
    rw [List.length_append] at htl
    exact List.eq_nil_of_length_eq_zero (by simp only at h4; omega)
  rw [this, List.append_nil] at hq
  exact hq
theorem allGo_fuel : ∀ (f : Nat) (s : List Nat) (f' : Nat), s.length ≤ f → s.length ≤ f' → allGo f s = allGo f' s
  | 0, s, f', h, _ => by
    have : s = [] := List.eq_nil_of_length_eq_zero (by omega)
    subst this
    cases f' <;> simp [allGo]
  | f + 1, s, f', h, h' => by
    cases f' with
    | zero =>
      have : s = [] := List.eq_nil_of_length_eq_zero (by omega)
      subst this
      simp [allGo]
    | succ f' =>
      unfold allGo
      by_cases h1 : s = []
      · rw [if_pos h1, if_pos h1]
      rw [if_neg h1, if_neg h1]
      by_cases h2 : (openN s).2.2 ≠ 0
      · rw [if_pos h2, if_pos h2]
      rw [if_neg h2, if_neg h2]
      have hw := openN_whole (s := s) (by omega)
      rw [allGo_fuel f (s.drop (openN s).2.1) f' (by rw [List.length_drop]; omega) (by rw [List.length_drop]; omega)]
theorem allGo_app : ∀ (l : List (List Nat)) (T : List Nat) (f : Nat), (∀ s ∈ l, s.length ≤ 131072) → (framesN l ++ T).length ≤ f → (allGo f (framesN l ++ T)).1 = l ++ (allN T).1
  | [], T, f, _, h => by
    show (allGo f T).1 = (allN T).1
    unfold allN
    rw [allGo_fuel f T T.length (by simpa [framesN] using h) (Nat.le_refl _)]
  | d :: l, T, f, hs, h => by
    have e : framesN (d :: l) ++ T = frameN d ++ (framesN l ++ T) := by simp [framesN]
    rw [e] at h ⊢
    have hfl := frameN_len d
    rw [List.length_append, hfl] at h
    obtain ⟨f, rfl⟩ : ∃ k, f = k + 1 := ⟨f - 1, by omega⟩
    have ho := openN_frame (s := d) (framesN l ++ T) (hs d List.mem_cons_self)
    have hne : frameN d ++ (framesN l ++ T) ≠ [] := fun h0 => by
      have := congrArg List.length h0
      rw [List.length_append, hfl] at this
      simp at this
    rw [allGo, if_neg hne, ho, if_neg (by simp)]
    simp only
    rw [List.drop_left' hfl, allGo_app l T f (fun s h2 => hs s (List.mem_cons_of_mem _ h2)) (by omega), List.cons_append]
/-- Frames, and what a crash left of one more. -/
theorem allN_front {l : List (List Nat)} {d T : List Nat} (hs : ∀ s ∈ l, s.length ≤ 131072) (hd : Byt d) (hdl : d.length ≤ 131072) (h : Sect ((frameN d).take T.length) T) (hl : T.length ≤ d.length + 12) : (allN (framesN l ++ T)).1 = l ∨ (allN (framesN l ++ T)).1 = l ++ [d] := by
  unfold allN
  rw [allGo_app l T _ hs (Nat.le_refl _)]
  by_cases hT : T = []
  · left
    rw [hT]
    simp [allN, allGo]
  by_cases hw : (openN T).2.2 = 0
  · right
    rw [front_whole hd hdl h hl hw]
    have := allN_frames (l := [d]) (fun s hs => by simp at hs; subst hs; exact hdl)
    rw [framesN_one] at this
    rw [this]
  · left
    have : (allN T).1 = [] := by
      unfold allN
      obtain ⟨k, hk⟩ : ∃ k, T.length = k + 1 := ⟨T.length - 1, by have := List.length_pos_iff.2 hT; omega⟩
      rw [hk, allGo, if_neg hT, if_pos hw]
    rw [this, List.append_nil]
end Go.Proofs.YtnlepoplncjliaaGreatDoor

namespace Go.Proofs.YtnlepoplncjliaaGreatDoor
open Go.RowKit

/-- Bytes from a place on, those of one sector turned. -/
def turnK (s : List Nat) (a : Nat) (ks : Int) : List Nat := s.mapIdx fun i c => if a ≤ i ∧ ((i / 64 : Nat) : Int) = ks then c ^^^ 165 else c
/-- What is kept of a file. -/
def Fil.kept (f : Fil) (kb : Int) : Nat := f.safe + (min (max kb 0) ((f.data.length : Int) - (f.safe : Int))).toNat
def Fil.crash (f : Fil) (kb ks : Int) : Fil := ⟨turnK (f.data.take (f.kept kb)) f.safe ks, f.kept kb⟩
theorem mapIdx_eq {f : Nat → Nat → Nat} {g : Nat → Nat} {l : List Nat} (h : ∀ i, i < l.length → ∀ c, f i c = g c) : l.mapIdx f = l.map g := by
  refine List.ext_getElem (by simp) fun i h1 h2 => ?_
  rw [List.getElem_mapIdx, List.getElem_map]
  exact h i (by simpa using h2) _
theorem turnK_len (s : List Nat) (a : Nat) (ks : Int) : (turnK s a ks).length = s.length := by unfold turnK; simp
theorem crash_full {f : Fil} (h : f.safe = f.data.length) (kb ks : Int) : f.crash kb ks = f := by
  have hk : f.kept kb = f.data.length := by unfold Fil.kept; omega
  unfold Fil.crash
  rw [hk, List.take_of_length_le (Nat.le_refl _)]
  have e : turnK f.data f.safe ks = f.data := by
    unfold turnK
    rw [mapIdx_eq (g := id) (fun i hi c => by rw [if_neg (by omega)]; rfl), List.map_id]
  rw [e, ← h]
theorem turn_sect {R : List Nat} (hR : Byt R) (p : Nat) (ks : Int) : Sect R (R.mapIdx fun i c => if ((((p + i) / 64 : Nat)) : Int) = ks then c ^^^ 165 else c) := by
  by_cases hk : ks < 0
  · rw [mapIdx_eq (g := id) (fun i hi c => by rw [if_neg (by omega)]; rfl), List.map_id]
    exact Sect.refl hR
  obtain ⟨K, rfl⟩ : ∃ K : Nat, ks = (K : Int) := ⟨ks.toNat, by omega⟩
  obtain ⟨x, hx⟩ : ∃ x, x = 64 * K - p := ⟨_, rfl⟩
  obtain ⟨y, hy⟩ : ∃ y, y = 64 * K + 64 - p - x := ⟨_, rfl⟩
  have hs : R = R.take x ++ (R.drop x).take y ++ (R.drop x).drop y := by
    rw [List.append_assoc, List.take_append_drop, List.take_append_drop]
  have hYl : ((R.drop x).take y).length ≤ 64 := by rw [List.length_take]; omega
  have hX := hR.take x
  have hY := (hR.drop x).take y
  have hZ := (hR.drop x).drop y
  have l1 : (R.take x).length = min x R.length := List.length_take
  have l2 : ((R.drop x).take y).length = min y (R.length - x) := by rw [List.length_take, List.length_drop]
  have l3 : ((R.drop x).drop y).length = R.length - x - y := by rw [List.length_drop, List.length_drop]
  obtain ⟨X, hXe⟩ : ∃ X, X = R.take x := ⟨_, rfl⟩
  obtain ⟨Y, hYe⟩ : ∃ Y, Y = (R.drop x).take y := ⟨_, rfl⟩
  obtain ⟨Z, hZe⟩ : ∃ Z, Z = (R.drop x).drop y := ⟨_, rfl⟩
  rw [← hXe] at hX l1 hs
  rw [← hYe] at hY l2 hYl hs
  rw [← hZe] at hZ l3 hs
  clear hXe hYe hZe
  have hRl : R.length = X.length + Y.length + Z.length := by rw [hs]; simp only [List.length_append]
  have hm : R.mapIdx (fun i c => if ((((p + i) / 64 : Nat)) : Int) = (K : Int) then c ^^^ 165 else c) = X ++ Y.map (· ^^^ 165) ++ Z := by
    conv => lhs; rw [hs]
    rw [List.mapIdx_append, List.mapIdx_append]
    congr 1
    · congr 1
      · rw [mapIdx_eq (g := id) (fun i hi c => by rw [if_neg (by omega)]; rfl), List.map_id]
      · rw [mapIdx_eq (g := (· ^^^ 165)) (fun i hi c => by rw [if_pos (by omega)])]
    · rw [mapIdx_eq (g := id) (fun i hi c => by rw [List.length_append, if_neg (by omega)]; rfl), List.map_id]
  have := sect_of hX hY hZ hYl
  rw [← hs] at this
  rw [hm]
  exact this
/-- A file with bytes behind those that are safe. -/
theorem crash_tail {f : Fil} {A Q : List Nat} (hd : f.data = A ++ Q) (hs : f.safe = A.length) (hQ : Byt Q) (kb ks : Int) : ∃ T, f.crash kb ks = full (A ++ T) ∧ T.length ≤ Q.length ∧ Sect (Q.take T.length) T := by
  obtain ⟨q, hq⟩ : ∃ q, q = (min (max kb 0) ((f.data.length : Int) - (f.safe : Int))).toNat := ⟨_, rfl⟩
  have hql : q ≤ Q.length := by rw [hq, hd, hs, List.length_append]; omega
  have hk : f.kept kb = A.length + q := by unfold Fil.kept; rw [← hq, hs]
  have hR : Byt (Q.take q) := hQ.take q
  have hRl : (Q.take q).length = q := by rw [List.length_take]; omega
  have hS := turn_sect hR A.length ks
  obtain ⟨T, hT⟩ : ∃ T, T = (Q.take q).mapIdx fun i c => if ((((A.length + i) / 64 : Nat)) : Int) = ks then c ^^^ 165 else c := ⟨_, rfl⟩
  rw [← hT] at hS
  have hTl : T.length = q := by rw [hT, List.length_mapIdx, hRl]
  refine ⟨T, ?_, by omega, by rw [hTl]; exact hS⟩
  have ht : turnK (A ++ Q.take q) A.length ks = A ++ T := by
    unfold turnK
    rw [List.mapIdx_append, hT]
    congr 1
    · rw [mapIdx_eq (g := id) (fun i hi c => by rw [if_neg (by omega)]; rfl), List.map_id]
    · congr 1
      funext i c
      rw [Nat.add_comm i A.length]
      by_cases e : (((A.length + i) / 64 : Nat) : Int) = ks
      · rw [if_pos ⟨by omega, e⟩, if_pos e]
      · rw [if_neg (fun h => e h.2), if_neg e]
  unfold Fil.crash full
  rw [hk, hd, hs, List.take_append, List.take_of_length_le (by omega), show A.length + q - A.length = q by omega, ht, List.length_append, hTl]
/-- What is known of a segment that a crash left. -/
theorem known_plain {l : List (List Nat)} (hs : ∀ s ∈ l, s.length ≤ 131072) (hl : l.length ≤ 131072) : knownN (framesN l, marksN l.length) = (l, false, true) := by
  have h1 := allN_frames hs
  unfold knownN
  simp only
  rw [h1, countN_marks hl, if_neg (by simp), if_neg (by simp)]
  simp
theorem known_front {l : List (List Nat)} {d T : List Nat} (hs : ∀ s ∈ l, s.length ≤ 131072) (hll : l.length ≤ 131072) (hd : Byt d) (hdl : d.length ≤ 131072) (h : Sect ((frameN d).take T.length) T) (hl : T.length ≤ d.length + 12) :
    (knownN (framesN l ++ T, marksN l.length)).2.2 = true ∧ ((knownN (framesN l ++ T, marksN l.length)).1 = l ∨ (knownN (framesN l ++ T, marksN l.length)).1 = l ++ [d]) := by
  have h1 := allN_front hs hd hdl h hl
  unfold knownN
  simp only
  rw [countN_marks hll]
  rcases h1 with h1 | h1
  · rw [h1, if_neg (by simp), if_neg (by simp)]
    exact ⟨rfl, .inl rfl⟩
  · rw [h1, if_neg (by rw [List.length_append]; omega), if_neg (by simp)]
    exact ⟨rfl, .inr rfl⟩
/-- Frames all, marks perhaps fewer. -/
theorem known_less {l : List (List Nat)} {K : List Nat} (hs : ∀ s ∈ l, s.length ≤ 131072) (h1 : (countN K).1 ≤ l.length) (h2 : (countN K).2 = false) : (knownN (framesN l, K)).2.2 = true ∧ (knownN (framesN l, K)).1 = l := by
  have h3 := allN_frames hs
  unfold knownN
  simp only
  rw [h3, if_neg (by simp only; omega), if_neg (by rw [h2]; simp)]
  exact ⟨rfl, rfl⟩
theorem countN_nil : countN [] = (0, false) := rfl
theorem cntGo_fuel : ∀ (f : Nat) (a : Nat × Bool) (s : List Nat) (f' : Nat), s.length ≤ f → s.length ≤ f' → cntGo f a s = cntGo f' a s
  | 0, a, s, f', h, _ => by
    cases f' with
    | zero => rfl
    | succ f' => rw [cntGo, cntGo, if_neg (by omega)]
  | f + 1, a, s, f', h, h' => by
    cases f' with
    | zero => rw [cntGo, cntGo, if_neg (by omega)]
    | succ f' =>
      rw [cntGo, cntGo]
      by_cases e : 12 ≤ s.length
      · rw [if_pos e, if_pos e, cntGo_fuel f _ (s.drop 12) f' (by rw [List.length_drop]; omega) (by rw [List.length_drop]; omega)]
      · rw [if_neg e, if_neg e]
theorem cntGo_app : ∀ (ns : List Nat) (f : Nat) (a : Nat × Bool) (T : List Nat), (∀ n ∈ ns, n ≤ 131072) → (marksL ns ++ T).length ≤ f → cntGo f a (marksL ns ++ T) = cntGo f (ns.foldl max a.1, a.2) T
  | [], f, a, T, _, h => by simp [marksL]
  | n :: ns, f, a, T, hn, h => by
    have e : marksL (n :: ns) ++ T = markN n ++ (marksL ns ++ T) := by simp [marksL]
    rw [e] at h ⊢
    have hml := markN_len n
    rw [List.length_append, hml] at h
    obtain ⟨f, rfl⟩ : ∃ k, f = k + 1 := ⟨f - 1, by omega⟩
    rw [cntGo, if_pos (by rw [List.length_append]; omega), List.take_left' hml, List.drop_left' hml, cntStep_mark (hn n List.mem_cons_self), cntGo_app ns f _ T (fun m hm => hn m (List.mem_cons_of_mem _ hm)) (by omega)]
    rw [List.foldl_cons]
    have hl2 : T.length ≤ f := by rw [List.length_append] at h; omega
    exact cntGo_fuel f _ T (f + 1) hl2 (by omega)
theorem countN_tail {c : Nat} {T : List Nat} (hc : c + 1 ≤ 131072) (hT : T.length ≤ 12) (h : Sect ((markN (c + 1)).take T.length) T) : (countN (marksN c ++ T)).1 ≤ c + 1 ∧ (countN (marksN c ++ T)).2 = false := by
  have hm : marksN c = marksL ((List.range c).map (· + 1)) := rfl
  have hgo : countN (marksN c ++ T) = cntGo (marksN c ++ T).length (c, false) T := by
    unfold countN
    conv => lhs; rw [hm]
    rw [cntGo_app _ _ _ _ (fun n hn => by
      obtain ⟨k, hk, rfl⟩ := List.mem_map.1 hn
      have := List.mem_range.1 hk
      omega) (Nat.le_refl _), fold_max]
    rfl
  rw [hgo]
  obtain ⟨f, hf⟩ : ∃ f, (marksN c ++ T).length = f := ⟨_, rfl⟩
  rw [hf]
  rw [List.length_append] at hf
  cases f with
  | zero => exact ⟨by show c ≤ _; omega, rfl⟩
  | succ f =>
    rw [cntGo]
    by_cases hl : 12 ≤ T.length
    · rw [if_pos hl, List.take_of_length_le hT, List.drop_eq_nil_of_le hT]
      have h0 : ∀ f (x : Nat × Bool), cntGo f x [] = x := fun f x => by cases f <;> simp [cntGo]
      rw [h0]
      rw [List.take_of_length_le (by rw [markN_len]; exact hl)] at h
      by_cases hv : T = markN (valB (T.take 8))
      · have hs : Sect (beB 8 (c + 1) ++ laidC (beB 8 (c + 1))) (beB 8 (valB (T.take 8)) ++ laidC (beB 8 (valB (T.take 8)))) := by
          have e1 : markN (c + 1) = beB 8 (c + 1) ++ laidC (beB 8 (c + 1)) := rfl
          have e2 : markN (valB (T.take 8)) = beB 8 (valB (T.take 8)) ++ laidC (beB 8 (valB (T.take 8))) := rfl
          rw [← e1, ← e2, ← hv]
          exact h
        have q := hs.valid (by rw [beB_len, beB_len]) rfl rfl
        have hq : T = markN (c + 1) := hv.trans q.symm
        rw [hq, cntStep_mark (by omega)]
        exact ⟨by simp only; omega, rfl⟩
      · unfold cntStep
        rw [if_pos (.inr hv)]
        exact ⟨by show c ≤ _; omega, rfl⟩
    · rw [if_neg hl]
      exact ⟨by show c ≤ _; omega, rfl⟩
end Go.Proofs.YtnlepoplncjliaaGreatDoor

namespace Go.Proofs.YtnlepoplncjliaaGreatDoor
open Go.RowKit

def Dk.arm (D : Dk) (n : Nat) : Dk := { D with armed := true, left := n }
/-- The power is gone. -/
def Dk.dead (D : Dk) : Dk := { D with armed := true, left := 0, off := true }
theorem tick_arm {D : Dk} (h : D.calm) (n : Nat) : (D.arm (n + 1)).tick = D.arm n := by
  unfold Dk.tick Dk.arm
  simp only [h.off, Bool.false_eq_true, if_false, if_true]
  rw [if_neg (by omega)]
  congr 1
  all_goals first | rfl | omega | exact h.off.symm | (simp; done) | skip
theorem tick_dead {D : Dk} (h : D.calm) : (D.arm 0).tick = D.dead := by
  unfold Dk.tick Dk.arm Dk.dead
  simp only [h.off, Bool.false_eq_true, if_false, if_true]
  rw [if_pos (show ((0 : Nat) : Int) = 0 from rfl)]
  rfl
theorem beginE_arm {D : Dk} (h : D.calm) (n : Nat) (ns : List (List Nat)) : (D.arm (n + 1)).beginE ns = D.beginE ns := by
  unfold Dk.beginE
  rw [tick_arm h, tick_calm h]
  rfl
theorem beginE_dead {D : Dk} (h : D.calm) (ns : List (List Nat)) : (D.arm 0).beginE ns = 6 := by
  unfold Dk.beginE
  rw [tick_dead h]
  rfl
theorem appendE_arm {D : Dk} (h : D.calm) (n : Nat) (a s : List Nat) : (D.arm (n + 1)).appendE a s = D.appendE a s := by
  unfold Dk.appendE
  rw [beginE_arm h]
  rfl
theorem append_arm {D : Dk} (h : D.calm) (n : Nat) (a s : List Nat) : (D.arm (n + 1)).append a s = (D.append a s).arm n := by
  unfold Dk.append
  rw [appendE_arm h, tick_arm h, tick_calm h]
  split <;> rfl
theorem thereE_arm {D : Dk} (h : D.calm) (n : Nat) (ns : List (List Nat)) (a : List Nat) : (D.arm (n + 1)).thereE ns a = D.thereE ns a := by
  unfold Dk.thereE
  rw [beginE_arm h]
  rfl
theorem sync_arm {D : Dk} (h : D.calm) (n : Nat) (a : List Nat) : (D.arm (n + 1)).sync a = (D.sync a).arm n := by
  unfold Dk.sync
  rw [thereE_arm h, tick_arm h, tick_calm h]
  have e : (D.arm (n + 1)).get a = D.get a := rfl
  rw [e]
  split
  · cases D.get a <;> rfl
  · rfl
theorem delete_arm {D : Dk} (h : D.calm) (n : Nat) (a : List Nat) : (D.arm (n + 1)).delete a = (D.delete a).arm n := by
  unfold Dk.delete
  rw [thereE_arm h, tick_arm h, tick_calm h]
  split <;> rfl
theorem dropE_arm {D : Dk} (h : D.calm) (n : Nat) (a : List Nat) : (D.arm (n + 1)).dropE a = D.dropE a := by
  unfold Dk.dropE
  rw [thereE_arm h]
theorem appendE_dead {D : Dk} (h : D.calm) (a s : List Nat) : (D.arm 0).appendE a s = 6 := by
  unfold Dk.appendE
  rw [beginE_dead h, if_pos (by decide)]
theorem append_dead {D : Dk} (h : D.calm) (a s : List Nat) : (D.arm 0).append a s = D.dead := by
  unfold Dk.append
  rw [appendE_dead h, if_neg (by decide), tick_dead h]
theorem thereE_dead {D : Dk} (h : D.calm) (ns : List (List Nat)) (a : List Nat) : (D.arm 0).thereE ns a = 6 := by
  unfold Dk.thereE
  rw [beginE_dead h, if_pos (by decide)]
theorem sync_dead {D : Dk} (h : D.calm) (a : List Nat) : (D.arm 0).sync a = D.dead := by
  unfold Dk.sync
  rw [thereE_dead h, if_neg (by decide), tick_dead h]
theorem delete_dead {D : Dk} (h : D.calm) (a : List Nat) : (D.arm 0).delete a = D.dead := by
  unfold Dk.delete
  rw [thereE_dead h, if_neg (by decide), tick_dead h]
theorem dropE_dead {D : Dk} (h : D.calm) (a : List Nat) : (D.arm 0).dropE a = 6 := by
  unfold Dk.dropE
  rw [thereE_dead h, if_neg (by decide)]
/-- A frame laid on an armed disk: all of it, or the power goes at one of four operations. -/
theorem lay_arm {D : Dk} {nm : List Nat} {num count : Nat} {s : List Nat} (hc : D.calm) (h1 : D.appendE (fileN nm num logK) s = 0) (h2 : (D.append (fileN nm num logK) s).thereE [fileN nm num logK] (fileN nm num logK) = 0)
    (h3 : ((D.append (fileN nm num logK) s).sync (fileN nm num logK)).appendE (fileN nm num ackK) (markN (count + 1)) = 0) (h4 : (((D.append (fileN nm num logK) s).sync (fileN nm num logK)).append (fileN nm num ackK) (markN (count + 1))).thereE [fileN nm num ackK] (fileN nm num ackK) = 0) (m : Nat) :
    (D.arm m).lay nm num count s = if m = 0 then (D.dead, 6) else if m = 1 then ((D.append (fileN nm num logK) s).dead, 6) else if m = 2 then (((D.append (fileN nm num logK) s).sync (fileN nm num logK)).dead, 6)
      else if m = 3 then ((((D.append (fileN nm num logK) s).sync (fileN nm num logK)).append (fileN nm num ackK) (markN (count + 1))).dead, 6) else ((D.lay nm num count s).1.arm (m - 4), 0) := by
  have c1 := append_calm (a := fileN nm num logK) (s := s) hc
  have c2 := sync_calm (a := fileN nm num logK) c1
  have c3 := append_calm (a := fileN nm num ackK) (s := markN (count + 1)) c2
  unfold Dk.lay Dk.note
  generalize fileN nm num logK = lg at *
  generalize fileN nm num ackK = ak at *
  match m with
  | 0 => rw [appendE_dead hc, if_pos (by decide), append_dead hc, if_pos rfl]
  | 1 =>
    rw [appendE_arm hc, append_arm hc, h1, if_neg (by simp), thereE_dead c1, if_pos (by decide), sync_dead c1, if_neg (by omega), if_pos rfl]
  | 2 =>
    rw [appendE_arm hc, append_arm hc, h1, if_neg (by simp), thereE_arm c1, sync_arm c1, h2, if_neg (by simp), appendE_dead c2, if_pos (by decide), append_dead c2, if_neg (by omega), if_neg (by omega), if_pos rfl]
  | 3 =>
    rw [appendE_arm hc, append_arm hc, h1, if_neg (by simp), thereE_arm c1, sync_arm c1, h2, if_neg (by simp), appendE_arm c2, append_arm c2, h3, if_neg (by simp), thereE_dead c3, sync_dead c3, if_neg (by omega), if_neg (by omega), if_neg (by omega), if_pos rfl]
  | m + 4 =>
    rw [appendE_arm hc, append_arm hc, h1, if_neg (by simp), thereE_arm c1, sync_arm c1, h2, if_neg (by simp), appendE_arm c2, append_arm c2, h3, if_neg (by simp), thereE_arm c3, sync_arm c3, h4, if_neg (by omega), if_neg (by omega), if_neg (by omega), if_neg (by omega), if_neg (by simp), if_neg (by simp), if_neg (by simp), Nat.add_sub_cancel]
end Go.Proofs.YtnlepoplncjliaaGreatDoor

namespace Go.Proofs.YtnlepoplncjliaaGreatDoor
open Go.RowKit

/-- A disk behind a crash: of each file something is kept, and something turned. -/
def Dk.crashed (D : Dk) (kf : List Nat → Int × Int) : Dk := ⟨D.room, D.files.map fun p => (p.1, p.2.crash (kf p.1).1 (kf p.1).2), false, false, D.left⟩
theorem crashed_get (D : Dk) (kf : List Nat → Int × Int) (x : List Nat) : (D.crashed kf).get x = (D.get x).map fun f => f.crash (kf x).1 (kf x).2 := by
  unfold Dk.get Dk.crashed
  show ((D.files.map _).find? _).map _ = _
  rw [List.find?_map]
  have hq : ((fun p : List Nat × Fil => decide (p.1 = x)) ∘ fun p : List Nat × Fil => (p.1, p.2.crash (kf p.1).1 (kf p.1).2)) = fun p => decide (p.1 = x) := rfl
  rw [hq]
  cases e : D.files.find? (fun p => decide (p.1 = x)) with
  | none => rfl
  | some p =>
    have h1 := List.find?_some e
    simp only [decide_eq_true_eq] at h1
    subst h1
    rfl
theorem crashed_names (D : Dk) (kf : List Nat → Int × Int) : (D.crashed kf).files.map (·.1) = D.files.map (·.1) := by
  unfold Dk.crashed
  show (D.files.map _).map _ = _
  rw [List.map_map]
  rfl
theorem crashed_calm (D : Dk) (kf : List Nat → Int × Int) : (D.crashed kf).calm := ⟨rfl, rfl⟩
theorem kept_le {f : Fil} (h : f.safe ≤ f.data.length) (kb : Int) : f.kept kb ≤ f.data.length := by unfold Fil.kept; omega
theorem crash_len {f : Fil} (h : f.safe ≤ f.data.length) (kb ks : Int) : (f.crash kb ks).data.length ≤ f.data.length := by
  have := kept_le h kb
  unfold Fil.crash
  simp only
  rw [turnK_len, List.length_take]
  omega
theorem crashed_used {D : Dk} (h : ∀ p ∈ D.files, p.2.safe ≤ p.2.data.length) (kf : List Nat → Int × Int) : (D.crashed kf).used ≤ D.used := by
  have key : ∀ l : List (List Nat × Fil), (∀ p ∈ l, p.2.safe ≤ p.2.data.length) → usedL (l.map fun p => (p.1, p.2.crash (kf p.1).1 (kf p.1).2)) ≤ usedL l := by
    intro l hl
    induction l with
    | nil => exact Nat.le_refl _
    | cons p r ih =>
      have h1 := ih (fun q hq => hl q (List.mem_cons_of_mem _ hq))
      have h2 := crash_len (hl p List.mem_cons_self) (kf p.1).1 (kf p.1).2
      rw [List.map_cons]
      unfold usedL
      simp only
      omega
  have := key D.files h
  unfold Dk.used
  show ((usedL (D.files.map _) : Nat) : Int) ≤ _
  omega
def norm (s : Nat × List (List Nat)) : Nat × (List Nat × List Nat) := (s.1, (framesN s.2, marksN s.2.length))
theorem recsG_app (a b : List (Nat × (List Nat × List Nat))) : recsG (a ++ b) = recsG a ++ recsG b := by simp [recsG]
theorem recsG_norm : ∀ {segs : List (Nat × List (List Nat))}, (∀ s ∈ segs, (∀ r ∈ s.2, r.length ≤ 131072) ∧ s.2.length ≤ 131072) → recsG (segs.map norm) = recsOf segs
  | [], _ => rfl
  | s :: r, h => by
    have ih := recsG_norm (segs := r) (fun x hx => h x (List.mem_cons_of_mem _ hx))
    obtain ⟨h1, h2⟩ := h s List.mem_cons_self
    have e1 : recsG ((s :: r).map norm) = ((knownN (norm s).2).1.map fun x => ((norm s).1, x)) ++ recsG (r.map norm) := by simp [recsG]
    have e2 : recsOf (s :: r) = (s.2.map fun x => (s.1, x)) ++ recsOf r := by simp [recsOf]
    have e3 : knownN (norm s).2 = (s.2, false, true) := known_plain h1 h2
    rw [e1, e2, ih, e3]
    rfl
theorem LogIs.bounds {D : Dk} {nm : List Nat} {segs : List (Nat × List (List Nat))} (h : LogIs D nm segs) : ∀ s ∈ segs, (∀ r ∈ s.2, r.length ≤ 131072) ∧ s.2.length ≤ 131072 := fun s hs => ⟨fun r hr => ((h.recs s hs).2.1 r hr).2, (h.recs s hs).2.2⟩
theorem LogIs.full_ {D : Dk} {nm : List Nat} {segs : List (Nat × List (List Nat))} (h : LogIs D nm segs) {x : List Nat} {f : Fil} (hf : D.get x = some f) : f.safe = f.data.length := by
  obtain ⟨s, hs, e⟩ := h.own x (by rw [hf]; rfl)
  rcases e with e | e
  · rw [e, h.log s hs] at hf
    injection hf with hf
    rw [← hf]; rfl
  · rw [e, h.ack s hs] at hf
    injection hf with hf
    rw [← hf]; rfl
/-- A log of which nothing was lost. -/
theorem gen_all {D F : Dk} {nm : List Nat} {segs : List (Nat × List (List Nat))} (h : LogIs D nm segs) (hc : F.calm) (hn : (F.files.map (·.1)).Nodup) (hg : ∀ x, F.get x = D.get x) : GenIs F nm (segs.map norm) := by
  have hm : ∀ g ∈ segs.map norm, ∃ s ∈ segs, g = norm s := fun g hg => by
    obtain ⟨s, hs, e⟩ := List.mem_map.1 hg
    exact ⟨s, hs, e.symm⟩
  refine ⟨hc, hn, ?_, fun g hgm => ?_, fun g hgm => ?_, fun g hgm => ?_, fun g hgm => ?_, fun x hx => ?_, fun x f hf => ?_⟩
  · rw [List.map_map]; exact h.inc
  · obtain ⟨s, hs, rfl⟩ := hm g hgm
    exact h.le s hs
  · obtain ⟨s, hs, rfl⟩ := hm g hgm
    unfold Dk.datN
    rw [hg]
    show ((D.get (fileN nm s.1 logK)).map _).getD _ = _
    rw [h.log s hs]
    rfl
  · obtain ⟨s, hs, rfl⟩ := hm g hgm
    unfold Dk.datN
    rw [hg]
    show ((D.get (fileN nm s.1 ackK)).map _).getD _ = _
    rw [h.ack s hs]
    rfl
  · obtain ⟨s, hs, rfl⟩ := hm g hgm
    left
    rw [hg]
    show (D.get (fileN nm s.1 logK)).isSome = true
    rw [h.log s hs]
    rfl
  · rw [hg] at hx
    obtain ⟨s, hs, e⟩ := h.own x hx
    exact ⟨norm s, List.mem_map.2 ⟨s, hs, rfl⟩, e⟩
  · rw [hg] at hf
    exact h.full_ hf
/-- A log of whose last segment something is left. -/
theorem gen_last {D F : Dk} {nm L K : List Nat} {W : Wl} {segs ini : List (Nat × List (List Nat))} {l : List (List Nat)} (h : LogIs D nm segs) (hw6 : W.num ≤ 999999) (hsegs : if W.count = 0 then segs = ini ∧ l = [] else segs = ini ++ [(W.num, l)]) (hini : ∀ s ∈ ini, s.1 < W.num) (hc : F.calm) (hn : (F.files.map (·.1)).Nodup)
    (hlog : F.get (fileN nm W.num logK) = some (full L)) (hack : (F.get (fileN nm W.num ackK) = none ∧ K = []) ∨ F.get (fileN nm W.num ackK) = some (full K)) (hoth : ∀ x, x ≠ fileN nm W.num logK → x ≠ fileN nm W.num ackK → F.get x = D.get x) : GenIs F nm (ini.map norm ++ [(W.num, (L, K))]) := by
  have hin : ∀ s ∈ ini, s ∈ segs := fun s hs => by
    split at hsegs
    · rw [hsegs.1]; exact hs
    · rw [hsegs]; exact List.mem_append_left _ hs
  have hseg : ∀ s ∈ segs, s ∈ ini ∨ s = (W.num, l) := fun s hs => by
    split at hsegs
    · rw [hsegs.1] at hs; exact .inl hs
    · rw [hsegs] at hs
      rcases List.mem_append.1 hs with hs | hs
      · exact .inl hs
      · simp at hs; exact .inr hs
  have hne : ∀ s ∈ ini, ∀ k k' : List Nat, fileN nm s.1 k ≠ fileN nm W.num k' := fun s hs k k' e => by
    have h1 := (fileN_inj (h.le s (hin s hs)) hw6 e).1
    have h2 := hini s hs
    omega
  have hgo : ∀ s ∈ ini, ∀ k, F.get (fileN nm s.1 k) = D.get (fileN nm s.1 k) := fun s hs k => hoth _ (hne s hs _ _) (hne s hs _ _)
  have hm : ∀ g ∈ ini.map norm ++ [(W.num, (L, K))], (∃ s ∈ ini, g = norm s) ∨ g = (W.num, (L, K)) := fun g hg => by
    rcases List.mem_append.1 hg with hg | hg
    · obtain ⟨s, hs, e⟩ := List.mem_map.1 hg
      exact .inl ⟨s, hs, e.symm⟩
    · simp at hg; exact .inr hg
  refine ⟨hc, hn, ?_, fun g hgm => ?_, fun g hgm => ?_, fun g hgm => ?_, fun g hgm => ?_, fun x hx => ?_, fun x f hf => ?_⟩
  · rw [List.map_append, List.map_map, List.pairwise_append]
    refine ⟨?_, by simp, fun a ha b hb => ?_⟩
    · have := h.inc
      split at hsegs
      · rw [hsegs.1] at this; exact this
      · rw [hsegs, List.map_append, List.pairwise_append] at this; exact this.1
    · obtain ⟨s, hs, rfl⟩ := List.mem_map.1 ha
      simp at hb
      subst hb
      exact hini s hs
  · rcases hm g hgm with ⟨s, hs, rfl⟩ | rfl
    · exact h.le s (hin s hs)
    · exact hw6
  · rcases hm g hgm with ⟨s, hs, rfl⟩ | rfl
    · unfold Dk.datN
      show ((F.get (fileN nm s.1 logK)).map _).getD _ = _
      rw [hgo s hs, h.log s (hin s hs)]
      rfl
    · unfold Dk.datN
      show ((F.get (fileN nm W.num logK)).map _).getD _ = _
      rw [hlog]
      rfl
  · rcases hm g hgm with ⟨s, hs, rfl⟩ | rfl
    · unfold Dk.datN
      show ((F.get (fileN nm s.1 ackK)).map _).getD _ = _
      rw [hgo s hs, h.ack s (hin s hs)]
      rfl
    · unfold Dk.datN
      show ((F.get (fileN nm W.num ackK)).map _).getD _ = _
      rcases hack with ⟨e1, e2⟩ | e1
      · rw [e1]; exact e2.symm
      · rw [e1]; rfl
  · rcases hm g hgm with ⟨s, hs, rfl⟩ | rfl
    · left
      show (F.get (fileN nm s.1 logK)).isSome = true
      rw [hgo s hs, h.log s (hin s hs)]
      rfl
    · left
      show (F.get (fileN nm W.num logK)).isSome = true
      rw [hlog]
      rfl
  · by_cases e1 : x = fileN nm W.num logK
    · exact ⟨(W.num, (L, K)), by simp, .inl e1⟩
    by_cases e2 : x = fileN nm W.num ackK
    · exact ⟨(W.num, (L, K)), by simp, .inr e2⟩
    rw [hoth x e1 e2] at hx
    obtain ⟨s, hs, e⟩ := h.own x hx
    rcases hseg s hs with h1 | h1
    · exact ⟨norm s, List.mem_append_left _ (List.mem_map.2 ⟨s, h1, rfl⟩), e⟩
    · rw [h1] at e
      rcases e with e | e
      · exact absurd e e1
      · exact absurd e e2
  · by_cases e1 : x = fileN nm W.num logK
    · rw [e1, hlog] at hf
      injection hf with hf
      rw [← hf]; rfl
    by_cases e2 : x = fileN nm W.num ackK
    · rcases hack with ⟨e3, -⟩ | e3
      · rw [e2, e3] at hf; cases hf
      · rw [e2, e3] at hf
        injection hf with hf
        rw [← hf]; rfl
    rw [hoth x e1 e2] at hf
    exact h.full_ hf
end Go.Proofs.YtnlepoplncjliaaGreatDoor

namespace Go.Proofs.YtnlepoplncjliaaGreatDoor
open Go.RowKit

theorem pow_xor (n a b : Nat) : 2 ^ n * (a ^^^ b) = (2 ^ n * a) ^^^ (2 ^ n * b) := by
  apply Nat.eq_of_testBit_eq
  intro j
  rw [Nat.testBit_xor, Nat.testBit_two_pow_mul, Nat.testBit_two_pow_mul, Nat.testBit_two_pow_mul, Nat.testBit_xor]
  cases decide (j ≥ n) <;> simp
theorem valL_set : ∀ (q : Nat) {s : List Nat} {c k : Nat}, Byt s → s[q]? = some c → k < 8 → valL (s.set q (c ^^^ 2 ^ k)) = valL s ^^^ 2 ^ (8 * q + k) ∧ Byt (s.set q (c ^^^ 2 ^ k))
  | _, [], _, _, _, h, _ => by simp at h
  | 0, d :: s, c, k, hs, h, hk => by
    injection h with h
    subst h
    have hd := hs d List.mem_cons_self
    have h2 : d ^^^ 2 ^ k < 256 := Nat.xor_lt_two_pow (n := 8) (by simpa using hd) (Nat.pow_lt_pow_right (by decide) hk)
    refine ⟨?_, ?_⟩
    · rw [List.set_cons_zero, valL_cons s h2, valL_cons s hd, Nat.mul_zero, Nat.zero_add, Nat.xor_assoc]
    · rw [List.set_cons_zero]
      intro x hx
      rcases List.mem_cons.1 hx with rfl | hx
      · exact h2
      · exact hs x (List.mem_cons_of_mem _ hx)
  | q + 1, d :: s, c, k, hs, h, hk => by
    have hd := hs d List.mem_cons_self
    obtain ⟨h1, h2⟩ := valL_set q hs.tail (by simpa using h) hk
    refine ⟨?_, ?_⟩
    · rw [List.set_cons_succ, valL_cons _ hd, valL_cons _ hd, h1, pow_xor, ← Nat.pow_add, show 8 + (8 * q + k) = 8 * (q + 1) + k by omega, Nat.xor_assoc, Nat.xor_assoc, Nat.xor_comm d]
    · rw [List.set_cons_succ]
      intro x hx
      rcases List.mem_cons.1 hx with rfl | hx
      · exact hd
      · exact h2 x hx
/-- One bit of a burst. -/
def rotS (safe at_ bits : Nat) (i : Nat) (s : List Nat) : List Nat := if bits / 2 ^ i % 2 = 1 ∧ at_ + i < 8 * safe then s.set ((at_ + i) / 8) ((s.getD ((at_ + i) / 8) 0) ^^^ 2 ^ ((at_ + i) % 8)) else s
def rotG (safe at_ bits : Nat) (s : List Nat) : Nat → List Nat
  | 0 => s
  | i + 1 => rotS safe at_ bits i (rotG safe at_ bits s i)
/-- Bytes with a burst. -/
def rotN (safe at_ bits : Nat) (s : List Nat) : List Nat := rotG safe at_ bits s 32
theorem mod_succ_bit (bits i : Nat) : bits % 2 ^ (i + 1) = if bits / 2 ^ i % 2 = 1 then (bits % 2 ^ i) ^^^ 2 ^ i else bits % 2 ^ i := by
  rw [Nat.mod_pow_succ]
  rcases Nat.mod_two_eq_zero_or_one (bits / 2 ^ i) with h | h
  · rw [if_neg (by omega), h]; simp
  · rw [if_pos h, h, Nat.add_comm, xor_split (Nat.mod_lt _ (Nat.two_pow_pos i)), Nat.mul_one, Nat.xor_comm]
theorem pow_mod_two (a m : Nat) : 2 ^ a % 2 ^ m = if a < m then 2 ^ a else 0 := by
  split
  · rename_i h; exact Nat.mod_eq_of_lt (Nat.pow_lt_pow_right (by decide) h)
  · rename_i h
    rw [show (2 : Nat) ^ a = 2 ^ m * 2 ^ (a - m) by rw [← Nat.pow_add]; congr 1; omega]
    exact Nat.mul_mod_right _ _
theorem rotG_val {safe at_ bits : Nat} {s : List Nat} (hs : Byt s) (hsafe : safe ≤ s.length) : ∀ i, (rotG safe at_ bits s i).length = s.length ∧ Byt (rotG safe at_ bits s i) ∧ valL (rotG safe at_ bits s i) = valL s ^^^ ((2 ^ at_ * (bits % 2 ^ i)) % 2 ^ (8 * safe))
  | 0 => ⟨rfl, hs, by simp [rotG, Nat.mod_one]⟩
  | i + 1 => by
    obtain ⟨h1, h2, h3⟩ := rotG_val (at_ := at_) (bits := bits) hs hsafe i
    obtain ⟨u, hu⟩ : ∃ u, u = rotG safe at_ bits s i := ⟨_, rfl⟩
    rw [← hu] at h1 h2 h3
    rw [rotG, ← hu]
    unfold rotS
    rw [mod_succ_bit]
    by_cases hb : bits / 2 ^ i % 2 = 1
    · rw [if_pos hb, pow_xor, ← Nat.pow_add, Nat.xor_mod_two_pow, pow_mod_two]
      by_cases hw : at_ + i < 8 * safe
      · rw [if_pos ⟨hb, hw⟩, if_pos hw]
        obtain ⟨c, hc⟩ : ∃ c, u[(at_ + i) / 8]? = some c := ⟨_, List.getElem?_eq_getElem (by omega)⟩
        have hgd : u.getD ((at_ + i) / 8) 0 = c := by rw [List.getD_eq_getElem?_getD, hc]; rfl
        rw [hgd]
        obtain ⟨h4, h5⟩ := valL_set ((at_ + i) / 8) h2 hc (Nat.mod_lt _ (show 8 > 0 by decide))
        refine ⟨by rw [List.length_set, h1], h5, ?_⟩
        rw [h4, h3, Nat.xor_assoc, show 8 * ((at_ + i) / 8) + (at_ + i) % 8 = at_ + i by omega]
      · rw [if_neg (fun h => hw h.2), if_neg hw, Nat.xor_zero]
        exact ⟨h1, h2, h3⟩
    · rw [if_neg (fun h => hb h.1), if_neg hb]
      exact ⟨h1, h2, h3⟩
theorem rotN_burst {safe at_ bits : Nat} {s : List Nat} (hs : Byt s) (hsafe : safe ≤ s.length) : Burst s (rotN safe at_ bits s) := by
  obtain ⟨h1, h2, h3⟩ := rotG_val (at_ := at_) (bits := bits) hs hsafe 32
  refine ⟨h1.symm, hs, h2, ?_⟩
  show BurstN (valL s ^^^ valL (rotG safe at_ bits s 32))
  rw [h3, ← Nat.xor_assoc, Nat.xor_self, Nat.zero_xor]
  exact BurstN.mod ⟨at_, bits % 2 ^ 32, Nat.mod_lt _ (by decide), rfl⟩ _
theorem rotN_zero {safe at_ : Nat} {s : List Nat} : rotN safe at_ 0 s = s := by
  have : ∀ i, rotG safe at_ 0 s i = s := fun i => by
    induction i with
    | zero => rfl
    | succ i ih => rw [rotG, ih]; unfold rotS; rw [if_neg (by simp)]
  exact this 32
/-- Bytes of one's own. -/
structure OwnB (w : World) (g : Nat) (l : List Nat) : Prop where
  ex : ∃ cs t fr, w.heap[g]? = some (.cells cs t fr) ∧ (∀ (j b : Nat), l[j]? = some b → cs[j]? = some (.int .u8 (b : Int))) ∧ l.length ≤ fr.1
section
variable {w w' : World} {g : Nat} {l : List Nat}
theorem OwnB.lt (h : OwnB w g l) : g < w.heap.size := by
  obtain ⟨cs, t, fr, h1, -⟩ := h.ex
  exact (Array.getElem?_eq_some_iff.1 h1).1
theorem OwnB.step (h : OwnB w g l) (hb : Below w.heap.size w w') : OwnB w' g l := by
  obtain ⟨cs, t, fr, h1, h2⟩ := h.ex
  exact ⟨⟨cs, t, fr, (hb.block g h.lt).trans h1, h2⟩⟩
theorem OwnB.cell (h : OwnB w g l) {j b : Nat} (hj : l[j]? = some b) : w.cell? ⟨g, j, none⟩ = some (.int .u8 (b : Int)) := by
  obtain ⟨cs, t, fr, h1, h2, h3⟩ := h.ex
  rw [cell_of_row _ _ _ _ _ _ h1]
  exact h2 j b hj
theorem OwnB.free (h : OwnB w g l) {j : Nat} (hj : j < l.length) : w.frozen? ⟨g, j, none⟩ = false := by
  obtain ⟨cs, t, fr, h1, h2, h3⟩ := h.ex
  obtain ⟨lo, hi⟩ := fr
  unfold World.frozen?
  simp only [h1]
  simp only at h3
  rw [decide_eq_false (show ¬ (lo ≤ j) by omega)]
  rfl
theorem OwnB.set (h : OwnB w g l) {j : Nat} (hj : j < l.length) (b : Nat) : OwnB (w.setCell ⟨g, j, none⟩ (.int .u8 (b : Int))) g (l.set j b) ∧ Below g w (w.setCell ⟨g, j, none⟩ (.int .u8 (b : Int))) := by
  obtain ⟨cs, t, fr, h1, h2, h3⟩ := h.ex
  refine ⟨⟨⟨cs.setIfInBounds j (.int .u8 (b : Int)), t, fr, ?_, fun k c hk => ?_, by rw [List.length_set]; exact h3⟩⟩, ?_⟩
  · unfold World.setCell
    simp only [h1]
    simp [Array.getElem?_modify, h1]
  · rw [List.getElem?_set] at hk
    rw [Array.getElem?_setIfInBounds]
    by_cases e : j = k
    · subst e
      rw [if_pos rfl] at hk ⊢
      rw [if_pos hj] at hk
      injection hk with hk
      subst hk
      have : j < cs.size := by
        obtain ⟨c, hc⟩ : ∃ c, l[j]? = some c := ⟨_, List.getElem?_eq_getElem hj⟩
        exact (Array.getElem?_eq_some_iff.1 (h2 j c hc)).1
      rw [if_pos this]
    · rw [if_neg e] at hk ⊢
      exact h2 k c hk
  · exact ⟨rfl, rfl, rfl, by simp [World.setCell], fun k hk => Below.heap_setCell w _ _ k (fun e => by have : k = g := e; omega)⟩
theorem OwnB.reads (h : OwnB w g l) : Reads w w.heap.size 1 (some ⟨g, 0, none⟩) l.length (Bt l) := by
  refine ⟨by rw [length_Bt]; omega, fun _ => ⟨_, rfl, h.lt, fun j u hu => ?_⟩⟩
  have hplain : (⟨g, 0, none⟩ : Addr).add j = ⟨g, j, none⟩ := by unfold Addr.add; split <;> simp_all
  rw [hplain]
  rw [get_Bt] at hu
  cases hlj : l[j]? with
  | none => rw [hlj] at hu; cases hu
  | some b =>
    rw [hlj] at hu
    injection hu with hu
    rw [← hu]
    exact h.cell hlj
end
section
variable {P : Program} {ops : Array Oper} {Q : Exit → Act → World → Prop} {rest : List Oper} {E : Operand → Option Value} {o : Oper} {n d : Nat} {F : List (Nat × Value)} {w w' : World} {v : Value} {x y z : Operand} {T T' : TypeId}
theorem Seq.convSB2 {e : TypeId} {l : List Nat} (ho : o.op = .convert T T' x) (hx : evF F x = some (.string (strOf l))) (hS : P.underlying T = some .string) (hT : P.underlying T' = some (.slice e)) (he : P.underlying e = some (.int .u8)) (hl : ∀ x ∈ l, x < 256)
    (hg : o.guard = none) (hd : o.dst = some d) (hn : Nat.blt d n = true)
    (h : ∀ g c w', w.heap.size ≤ g → Below w.heap.size w w' → OwnB w' g l → Seq P ops Q rest n ((d, .slice (some ⟨g, 0, none⟩) l.length c) :: F) w') : Seq P ops Q (o :: rest) n F w := by
  have hrun := run_bytes_of_string (P := P) w T T' e (strOf l) hS hT he
  generalize hc : grownCap w (strOf l).size 0 e = c at hrun
  rw [strOf_size] at hrun
  have hsz : l.length ≤ (bytesRow (strOf l) c).size := by
    unfold bytesRow
    rw [Array.size_append, Array.size_map]
    have : (strOf l).data.size = l.length := by show (strOf l).size = _; rw [strOf_size]
    omega
  refine Seq.val (w' := w.drew.alloc (.cells (bytesRow (strOf l) c) e ((bytesRow (strOf l) c).size, (bytesRow (strOf l) c).size + 1))) (fun ρ hρ => ?_) hg hd hn (h w.heap.size c _ (Nat.le_refl _) ?_ ⟨⟨_, _, _, Array.getElem?_push_size, fun j b hlj => ?_, hsz⟩⟩)
  · unfold execOp
    simp only [ho]; rw [hρ _ _ hx]
    simp only [Sem.run_bind, hrun, Result.andThen_ok]; rfl
  · exact ((Below.refl w.heap.size w).drewN 1).alloc (Nat.le_refl _) _
  · have hj : j < l.length := (List.getElem?_eq_some_iff.1 hlj).1
    have hj2 : j < (strOf l).data.size := by show j < (strOf l).size; rw [strOf_size]; exact hj
    rw [bytesRow_at _ _ j hj2]
    have e : (strOf l).data[j] = UInt8.ofNat b := by
      have := strOf_get hlj
      rw [getElem?_pos (strOf l) j (by rw [strOf_size]; exact hj)] at this
      exact Option.some.inj this
    rw [e, ofNat_toNat (hl b (List.mem_of_getElem? hlj))]
theorem Seq.storeB {g j b : Nat} {l : List Nat} (ho : o.op = .store T x y) (hx : evF F x = some (.pointer (some ⟨g, j, none⟩))) (hy : evF F y = some (.int .u8 (b : Int))) (hs : sizeIs P T 1 = true) (hb : OwnB w g l) (hj : j < l.length)
    (hg : o.guard = none) (hd : o.dst = none) (h : ∀ w', OwnB w' g (l.set j b) → Below g w w' → Seq P ops Q rest n F w') : Seq P ops Q (o :: rest) n F w := by
  obtain ⟨inf, hi, hsz⟩ := sizeIs_spec hs
  obtain ⟨c, hc⟩ : ∃ c, l[j]? = some c := ⟨_, List.getElem?_eq_getElem hj⟩
  obtain ⟨h1, h2⟩ := hb.set hj b
  exact Seq.unit (RunsU.store1 ho hx hy hi hsz rfl rfl (hb.cell hc) (hb.free hj)) hg hd (h _ h1 h2)
end
end Go.Proofs.YtnlepoplncjliaaGreatDoor

namespace Go.Proofs.YtnlepoplncjliaaGreatDoor
open Go.RowKit

theorem safe_any (B g0 : Nat) (D : Dk) (nm : List Nat) (f : Fil) (w : World) (h : DkAt w B g0 D) (hsm : ∀ c ∈ nm, c < 256) (hf : D.get nm = some f) :
    Calls Tryz.prog 32 #[.pointer (some ⟨g0, 0, none⟩), .string (strOf nm)] w fun e w' => e = .returned (.int .i64 (f.safe : Int)) ∧ Grow w w' := by
  obtain ⟨m, l, F, c1, c2, dk⟩ := h
  have k0 := dk.k
  have mp := dk.mp
  have bel := Below.refl w.heap.size w
  have hg := get_some dk.fl nm
  rw [hf] at hg
  obtain ⟨g21, hg21, hF⟩ := Option.map_eq_some_iff.1 hg.symm
  have hv : lkV l nm = .pointer (some ⟨g21, 0, none⟩) := by unfold lkV; rw [hg21]; rfl
  obtain ⟨-, k21⟩ := dk.fs.blk _ (lk_mem hg21)
  replace k21 : Blk w g21 91 (F g21).cs := k21
  rw [hF] at k21
  refine Calls.start 25 Tryz.func32 rfl rfl rfl ?_
  refine Cd.seq ?_
  refine Cd.region ?_
  refine Seq.val (Runs.assign rfl rfl) rfl rfl rfl ?_
  refine Seq.nil ?_
  refine Post.weak (F' := [(0, _), (1, _), (4, _)]) ⟨rfl, rfl, rfl, trivial⟩ ?_
  refine Post.then_ ?_
  refine Cd.seq ?_
  refine Cd.seq ?_
  refine Cd.region ?_
  refine Seq.val (Runs.move rfl rfl) rfl rfl rfl ?_
  refine Seq.val (Runs.eqlP rfl rfl rfl Tryz.underlying26) rfl rfl rfl ?_
  refine Seq.val (Runs.move rfl rfl) rfl rfl rfl ?_
  refine Seq.valG (Runs.move rfl rfl) rfl rfl rfl rfl rfl ?_
  refine Seq.valG (Runs.nilCheck rfl rfl) rfl rfl rfl rfl rfl ?_
  refine Seq.valG (Runs.fieldB 1 rfl rfl Tryz.underlying77 rfl (by kernel_rfl)) rfl rfl rfl rfl rfl ?_
  refine Seq.valG (Runs.loadB rfl rfl Tryz.underlying75 rfl k0 rfl) rfl rfl rfl rfl rfl ?_
  refine Seq.valG (Runs.move rfl rfl) rfl rfl rfl rfl rfl ?_
  refine Seq.valG (Runs.lookup1 rfl rfl rfl mp hsm Tryz.underlying75 Tryz.underlying9 zero_pfile) rfl rfl rfl rfl rfl ?_
  rw [hv]
  refine Seq.valG (Runs.eqlP rfl rfl rfl Tryz.underlying88) rfl rfl rfl rfl rfl ?_
  refine Seq.val (Runs.pickF rfl rfl rfl) rfl rfl rfl ?_
  refine Seq.nil ?_
  refine Post.weak (F' := [(0, _), (1, _), (4, _), (15, _)]) ⟨rfl, rfl, rfl, rfl, trivial⟩ ?_
  refine Post.then_ ?_
  refine Cd.condF rfl rfl ?_
  refine Cd.skip ?_
  refine Post.then_ ?_
  refine Cd.seq ?_
  refine Cd.region ?_
  refine Seq.val (Runs.move rfl rfl) rfl rfl rfl ?_
  refine Seq.val (Runs.nilCheck rfl rfl) rfl rfl rfl ?_
  refine Seq.val (Runs.fieldB 1 rfl rfl Tryz.underlying77 rfl (by kernel_rfl)) rfl rfl rfl ?_
  refine Seq.val (Runs.loadB rfl rfl Tryz.underlying75 rfl k0 rfl) rfl rfl rfl ?_
  refine Seq.val (Runs.move rfl rfl) rfl rfl rfl ?_
  refine Seq.val (Runs.lookup1 rfl rfl rfl mp hsm Tryz.underlying75 Tryz.underlying9 zero_pfile) rfl rfl rfl ?_
  rw [hv]
  refine Seq.val (Runs.nilCheck rfl rfl) rfl rfl rfl ?_
  refine Seq.val (Runs.fieldB 1 rfl rfl Tryz.underlying91 rfl (by kernel_rfl)) rfl rfl rfl ?_
  refine Seq.val (Runs.loadB rfl rfl Tryz.underlying3 rfl k21 rfl) rfl rfl rfl ?_
  refine Seq.val (Runs.assign rfl rfl) rfl rfl rfl ?_
  refine Seq.nil ?_
  refine Post.weak (F' := [(0, _), (1, _), (4, _), (15, _)]) ⟨rfl, rfl, rfl, rfl, trivial⟩ ?_
  refine Post.then_ ?_
  refine Cd.ret ?_
  refine Post.end1 rfl rfl (.inl rfl) ?_
  exact ⟨rfl, bel⟩
theorem Runs.xor8 {P : Program} {E : Operand → Option Value} {o : Oper} {w : World} {x y : Operand} {T T' : TypeId} {a b : Nat} (ho : o.op = .binOp .xor T x y T') (hx : E x = some (.int .u8 (a : Int))) (hy : E y = some (.int .u8 (b : Int))) (ha : a < 256) (hb : b < 256) : Runs P E o w (.int .u8 ((a ^^^ b : Nat) : Int)) w := by
  have e1 : (BitVec.ofInt IntKind.u8.bits (a : Int)).toNat = a := by simp [IntKind.bits]; omega
  have e2 : (BitVec.ofInt IntKind.u8.bits (b : Int)).toNat = b := by simp [IntKind.bits]; omega
  have hr : a ^^^ b < 256 := Nat.xor_lt_two_pow (n := 8) ha hb
  refine .bin ho hx hy rfl ?_
  show (Op.intBits .xor .u8 a b).run P w = _
  simp only [Op.intBits, BitVec.toNat_xor, e1, e2, wrapB (Int.natCast_nonneg _) (Int.ofNat_lt.2 hr)]; rfl
theorem shl_bit (k : Nat) (hk : k < 8) : IntKind.u8.wrap ((1 : Int) * (2 : Int) ^ (min ((k : Int)).toNat IntKind.u8.bits)) = ((2 ^ k : Nat) : Int) := by
  have h : ∀ k : Nat, k < 8 → IntKind.u8.wrap ((1 : Int) * (2 : Int) ^ (min ((k : Int)).toNat IntKind.u8.bits)) = ((2 ^ k : Nat) : Int) := by decide
  exact h k hk
set_option maxHeartbeats 4000000 in
theorem rot_any (B g0 : Nat) (D : Dk) (nm : List Nat) (f : Fil) (at_ bits : Nat) (w : World) (h : DkAt w B g0 D) (hsm : ∀ c ∈ nm, c < 256) (hf : D.get nm = some f) (hat : at_ ≤ 1000000000) (hbits : bits < 4294967296) :
    Calls Tryz.prog 33 #[.pointer (some ⟨g0, 0, none⟩), .string (strOf nm), .int .i64 (at_ : Int), .int .u32 (bits : Int)] w fun e w' => ∃ b, e = .returned (.bool b) ∧ DkAt w' B g0 (D.set nm ⟨rotN f.safe at_ bits f.data, f.safe⟩) ∧ Df B w w' := by
  obtain ⟨m, l, F, c1, c2, dk⟩ := h
  have k0 := dk.k
  have mp := dk.mp
  have df := Df.refl B w
  have hBw := dk.size
  have hg := get_some dk.fl nm
  rw [hf] at hg
  obtain ⟨g9, hg9, hF⟩ := Option.map_eq_some_iff.1 hg.symm
  have hv : lkV l nm = .pointer (some ⟨g9, 0, none⟩) := by unfold lkV; rw [hg9]; rfl
  obtain ⟨e9, k9⟩ := dk.fs.blk _ (lk_mem hg9)
  replace e9 : B ≤ g9 := e9
  replace k9 : Blk w g9 91 (F g9).cs := k9
  rw [hF] at k9
  have hfok := (dk.ok.fil _ (get_mem hf)).1
  have fx := dk.fs.off g9
  have hm := dk.hm
  have e0 := dk.hB
  have ok0 := dk.ok
  have fl0 := dk.fl
  have hne09 := k0.neT k9
  have hnn := mp.nodup
  have hnd := fx.nd
  clear dk
  obtain ⟨data, safe⟩ := f
  obtain ⟨hfo1, hfo2, hfo3⟩ := hfok
  simp only at hfo1 hfo2 hfo3
  have K0 := k0
  have K9 : Blk w g9 91 #[.string (strOf data), .int .i64 (safe : Int)] := k9
  have FX := fx
  have MP := mp
  refine Calls.start 88 Tryz.func33 rfl rfl rfl ?_
  refine Cd.seq ?_
  refine Cd.region ?_
  refine Seq.val (Runs.assign rfl rfl) rfl rfl rfl ?_
  refine Seq.nil ?_
  refine Post.weak (F' := [(0, _), (1, _), (2, _), (3, _), (8, _)]) ⟨rfl, rfl, rfl, rfl, rfl, trivial⟩ ?_
  refine Post.then_ ?_
  refine Cd.seq ?_
  refine Cd.seq ?_
  refine Cd.region ?_
  refine Seq.val (Runs.move rfl rfl) rfl rfl rfl ?_
  refine Seq.val (Runs.eqlP rfl rfl rfl Tryz.underlying26) rfl rfl rfl ?_
  refine Seq.val (Runs.move rfl rfl) rfl rfl rfl ?_
  refine Seq.valG (Runs.move rfl rfl) rfl rfl rfl rfl rfl ?_
  refine Seq.valG (Runs.nilCheck rfl rfl) rfl rfl rfl rfl rfl ?_
  refine Seq.valG (Runs.fieldB 1 rfl rfl Tryz.underlying77 rfl (by kernel_rfl)) rfl rfl rfl rfl rfl ?_
  refine Seq.valG (Runs.loadB rfl rfl Tryz.underlying75 rfl k0 rfl) rfl rfl rfl rfl rfl ?_
  refine Seq.valG (Runs.move rfl rfl) rfl rfl rfl rfl rfl ?_
  refine Seq.valG (Runs.lookup1 rfl rfl rfl mp hsm Tryz.underlying75 Tryz.underlying9 zero_pfile) rfl rfl rfl rfl rfl ?_
  rw [hv]
  refine Seq.valG (Runs.eqlP rfl rfl rfl Tryz.underlying88) rfl rfl rfl rfl rfl ?_
  refine Seq.val (Runs.pickF rfl rfl rfl) rfl rfl rfl ?_
  refine Seq.val (Runs.move rfl rfl) rfl rfl rfl ?_
  refine Seq.valG (Runs.move rfl rfl) rfl rfl rfl rfl rfl ?_
  refine Seq.valG (Runs.lss rfl rfl rfl) rfl rfl rfl rfl rfl ?_
  refine Seq.val (Runs.pickF rfl rfl rfl) rfl rfl rfl ?_
  refine Seq.nil ?_
  refine Post.weak (F' := [(0, _), (1, _), (2, _), (3, _), (8, _), (27, _)]) ⟨rfl, rfl, rfl, rfl, rfl, rfl, trivial⟩ ?_
  refine Post.then_ ?_
  refine Cd.condF rfl (by simp) ?_
  refine Cd.skip ?_
  refine Post.then_ ?_
  refine Cd.seq ?_
  refine Cd.region ?_
  refine Seq.val (Runs.move rfl rfl) rfl rfl rfl ?_
  refine Seq.val (Runs.nilCheck rfl rfl) rfl rfl rfl ?_
  refine Seq.val (Runs.fieldB 1 rfl rfl Tryz.underlying77 rfl (by kernel_rfl)) rfl rfl rfl ?_
  refine Seq.val (Runs.loadB rfl rfl Tryz.underlying75 rfl k0 rfl) rfl rfl rfl ?_
  refine Seq.val (Runs.move rfl rfl) rfl rfl rfl ?_
  refine Seq.val (Runs.lookup1 rfl rfl rfl mp hsm Tryz.underlying75 Tryz.underlying9 zero_pfile) rfl rfl rfl ?_
  rw [hv]
  refine Seq.val (Runs.assign rfl rfl) rfl rfl rfl ?_
  refine Seq.nil ?_
  refine Post.weak (F' := [(0, _), (1, _), (2, _), (3, _), (8, _), (9, _), (27, _)]) ⟨rfl, rfl, rfl, rfl, rfl, rfl, rfl, trivial⟩ ?_
  refine Post.then_ ?_
  refine Cd.seq ?_
  refine Cd.region ?_
  refine Seq.val (Runs.move rfl rfl) rfl rfl rfl ?_
  refine Seq.val (Runs.nilCheck rfl rfl) rfl rfl rfl ?_
  refine Seq.val (Runs.fieldB 0 rfl rfl Tryz.underlying91 rfl (by kernel_rfl)) rfl rfl rfl ?_
  refine Seq.val (Runs.loadB rfl rfl Tryz.underlying9 rfl k9 rfl) rfl rfl rfl ?_
  have hBw2 := df.size
  refine Seq.convSB2 rfl rfl Tryz.underlying9 Tryz.underlying60 Tryz.underlying5 hfo1 rfl rfl rfl ?_
  intro g10 c10 w5 hg10 hb5 ob
  clear df k0 k9 fx mp
  have bel := hb5
  replace ob : OwnB w5 g10 (rotG safe at_ bits data 0) := ob
  refine Seq.val (Runs.assign rfl rfl) rfl rfl rfl ?_
  refine Seq.nil ?_
  refine Post.weak (F' := [(0, _), (1, _), (2, _), (3, _), (8, _), (9, _), (10, _), (27, _)]) ⟨rfl, rfl, rfl, rfl, rfl, rfl, rfl, rfl, trivial⟩ ?_
  refine Post.then_ ?_
  refine Cd.seq ?_
  refine Cd.region ?_
  refine Seq.val (Runs.assign rfl rfl) rfl rfl rfl ?_
  refine Seq.nil ?_
  refine Post.weak (F' := [(0, _), (1, _), (2, _), (3, _), (8, _), (9, _), (10, _), (11, _), (27, _)]) ⟨rfl, rfl, rfl, rfl, rfl, rfl, rfl, rfl, rfl, trivial⟩ ?_
  refine Post.then_ ?_
  refine Cd.seq ?_
  refine Cd.seq ?_
  refine Cd.region ?_
  refine Seq.val (Runs.move rfl rfl) rfl rfl rfl ?_
  refine Seq.nil ?_
  refine Post.weak (F' := [(0, _), (1, _), (2, _), (3, _), (8, _), (9, _), (10, _), (11, _), (27, _), (39, _)]) ⟨rfl, rfl, rfl, rfl, rfl, rfl, rfl, rfl, rfl, rfl, trivial⟩ ?_
  refine Post.then_ ?_
  refine Cd.block ?_
  refine Cd.loop (σ := Nat × Bool) (fun q => [(2, .int .i64 (at_ : Int)), (3, .int .u32 (bits : Int)), (9, .pointer (some ⟨g9, 0, none⟩)), (10, .slice (some ⟨g10, 0, none⟩) data.length c10), (11, .bool q.2), (39, .int .i64 (q.1 : Int))]) (fun q wr => q.1 ≤ 32 ∧ Below w.heap.size w wr ∧ OwnB wr g10 (rotG safe at_ bits data q.1)) (fun q => 32 - q.1) (0, false) ⟨by omega, bel, ob⟩ ⟨rfl, rfl, rfl, rfl, rfl, rfl, trivial⟩ ?_
  clear bel ob hb5
  rintro ⟨i, tu⟩ wr ⟨hi, bel, ob⟩
  simp only at hi ob
  show Cd _ _ _ _ [(2, .int .i64 (at_ : Int)), (3, .int .u32 (bits : Int)), (9, .pointer (some ⟨g9, 0, none⟩)), (10, .slice (some ⟨g10, 0, none⟩) data.length c10), (11, .bool tu), (39, .int .i64 (i : Int))] _
  have k9 := K9.step bel
  obtain ⟨hu1, hu2, -⟩ := rotG_val (at_ := at_) (bits := bits) hfo1 hfo2 i
  refine Cd.seq ?_
  refine Cd.region ?_
  refine Seq.val (Runs.lss rfl rfl rfl) rfl rfl rfl ?_
  refine Seq.nil ?_
  refine Post.weak (F' := [(2, _), (3, _), (9, _), (10, _), (11, _), (39, _), (40, _)]) ⟨rfl, rfl, rfl, rfl, rfl, rfl, rfl, trivial⟩ ?_
  refine Post.then_ ?_
  refine Cd.seq ?_
  refine Cd.condD rfl (fun hc => ?_) (fun hc => ?_)
  · have hdiv : bits / 2 ^ i < 4294967296 := Nat.lt_of_le_of_lt (Nat.div_le_self _ _) hbits
    have hand : bits / 2 ^ i &&& 1 = bits / 2 ^ i % 2 := Nat.and_one_is_mod _
    have hrs : rotG safe at_ bits data (i + 1) = rotS safe at_ bits i (rotG safe at_ bits data i) := rfl
    refine Cd.skip ?_
    refine Post.then_ ?_
    refine Cd.seq ?_
    refine Cd.block ?_
    refine Cd.seq ?_
    refine Cd.region ?_
    refine Seq.val (Runs.move rfl rfl) rfl rfl rfl ?_
    refine Seq.val (Runs.assign rfl rfl) rfl rfl rfl ?_
    refine Seq.nil ?_
    refine Post.weak (F' := [(2, _), (3, _), (9, _), (10, _), (11, _), (12, _), (39, _), (40, _)]) ⟨rfl, rfl, rfl, rfl, rfl, rfl, rfl, rfl, trivial⟩ ?_
    refine Post.then_ ?_
    refine Cd.seq ?_
    refine Cd.region ?_
    refine Seq.val (Runs.move rfl rfl) rfl rfl rfl ?_
    refine Seq.val (Runs.move rfl rfl) rfl rfl rfl ?_
    refine Seq.val (Runs.shr32 rfl rfl rfl (s := i) rfl (by omega)) rfl rfl rfl ?_
    refine Seq.val (Runs.and32 (b := 1) rfl rfl rfl hdiv (by omega)) rfl rfl rfl ?_
    rw [hand]
    refine Seq.val (Runs.eqlI rfl rfl rfl) rfl rfl rfl ?_
    refine Seq.val (Runs.move rfl rfl) rfl rfl rfl ?_
    refine SeqC.start ?_
    refine SeqC.open rfl rfl rfl rfl rfl rfl rfl (fun hcx => Runs.move rfl rfl) ?_
    refine SeqC.next rfl rfl rfl rfl rfl rfl rfl (fun hcx => Runs.quoI rfl rfl rfl (by omega) (by omega) (by omega)) ?_
    refine SeqC.next rfl rfl rfl rfl rfl rfl rfl (fun hcx => Runs.move rfl rfl) ?_
    refine SeqC.next rfl rfl rfl rfl rfl rfl rfl (fun hcx => Runs.nilCheck rfl rfl) ?_
    refine SeqC.next rfl rfl rfl rfl rfl rfl rfl (fun hcx => Runs.fieldB 1 rfl rfl Tryz.underlying91 rfl (by kernel_rfl)) ?_
    refine SeqC.next rfl rfl rfl rfl rfl rfl rfl (fun hcx => Runs.loadB rfl rfl Tryz.underlying3 rfl k9 rfl) ?_
    refine SeqC.next rfl rfl rfl rfl rfl rfl rfl (fun hcx => Runs.lss rfl rfl rfl) ?_
    refine SeqC.and rfl rfl rfl rfl rfl rfl rfl ?_
    refine Seq.val (Runs.move rfl rfl) rfl rfl rfl ?_
    refine SeqC.start ?_
    refine SeqC.open rfl rfl rfl rfl rfl rfl rfl (fun hcx => Runs.move rfl rfl) ?_
    refine SeqC.next rfl rfl rfl rfl rfl rfl rfl (fun hcx => Runs.move rfl rfl) ?_
    refine SeqC.next rfl rfl rfl rfl rfl rfl rfl (fun hcx => Runs.addI rfl rfl rfl (by omega) (by omega)) ?_
    refine SeqC.next rfl rfl rfl rfl rfl rfl rfl (fun hcx => Runs.move rfl rfl) ?_
    refine SeqC.next rfl rfl rfl rfl rfl rfl rfl (fun hcx => Runs.nilCheck rfl rfl) ?_
    refine SeqC.next rfl rfl rfl rfl rfl rfl rfl (fun hcx => Runs.fieldB 1 rfl rfl Tryz.underlying91 rfl (by kernel_rfl)) ?_
    refine SeqC.next rfl rfl rfl rfl rfl rfl rfl (fun hcx => Runs.loadB rfl rfl Tryz.underlying3 rfl k9 rfl) ?_
    refine SeqC.next rfl rfl rfl rfl rfl rfl rfl (fun hcx => Runs.mulI rfl rfl rfl (by omega) (by omega)) ?_
    refine SeqC.next rfl rfl rfl rfl rfl rfl rfl (fun hcx => Runs.lss rfl rfl rfl) ?_
    refine SeqC.and rfl rfl rfl rfl rfl rfl rfl ?_
    refine Seq.nil ?_
    refine Post.weak (F' := [(2, _), (3, _), (9, _), (10, _), (11, _), (12, _), (39, _), (40, _), (66, _)]) ⟨rfl, rfl, rfl, rfl, rfl, rfl, rfl, rfl, rfl, trivial⟩ ?_
    refine Post.then_ ?_
    refine Cd.cond rfl (fun h => ?_) (fun h => ?_)
    · have hP : bits / 2 ^ i % 2 = 1 ∧ at_ + i < 8 * safe := by
        have h' : (decide (((bits / 2 ^ i % 2 : Nat) : Int) = 1) && decide ((at_ : Int) / 8 < (safe : Int)) && decide ((at_ : Int) + (i : Int) < 8 * (safe : Int))) = true := h
        rw [Bool.and_eq_true, Bool.and_eq_true, decide_eq_true_eq, decide_eq_true_eq, decide_eq_true_eq] at h'
        obtain ⟨⟨h1, -⟩, h3⟩ := h'
        refine ⟨?_, by omega⟩
        generalize bits / 2 ^ i % 2 = x at h1 ⊢
        omega
      obtain ⟨q, hq⟩ : ∃ q, q = (at_ + i) / 8 := ⟨_, rfl⟩
      obtain ⟨r, hr⟩ : ∃ r, r = (at_ + i) % 8 := ⟨_, rfl⟩
      have hrs2 : rotS safe at_ bits i (rotG safe at_ bits data i) = (rotG safe at_ bits data i).set q ((rotG safe at_ bits data i).getD q 0 ^^^ 2 ^ r) := by unfold rotS; rw [if_pos hP, ← hq, ← hr]
      obtain ⟨cur, hcur⟩ : ∃ u, u = rotG safe at_ bits data i := ⟨_, rfl⟩
      rw [← hcur] at hrs2 hu1 hu2 ob
      obtain ⟨b, hb⟩ : ∃ b, cur[q]? = some b := ⟨_, List.getElem?_eq_getElem (by omega)⟩
      have hbd : cur.getD q 0 = b := by rw [List.getD_eq_getElem?_getD, hb]; rfl
      have hb256 := hu2 b (List.mem_of_getElem? hb)
      have hr8 : (2 : Nat) ^ r < 2 ^ 8 := Nat.pow_lt_pow_right (by decide) (by omega)
      replace hr8 : (2 : Nat) ^ r < 256 := hr8
      rw [hbd] at hrs2
      refine Cd.seq ?_
      refine Cd.draw 14 (by kernel_rfl) [] (.inl rfl) rfl Grow Grow.refl (fun _ _ _ => Grow.trans) ?_
      intro w1 hw1 zw1
      replace bel := bel.step hw1
      replace ob := ob.step hw1
      replace k9 := k9.step hw1
      have zbel := bel.size
      have zlt := k9.lt
      refine Dr.val Grow.refl rfl (fun w hG => Runs.move rfl rfl) rfl ?_
      refine Dr.val Grow.refl rfl (fun w hG => Runs.move rfl rfl) rfl ?_
      refine Dr.val Grow.refl rfl (fun w hG => Runs.move rfl rfl) rfl ?_
      refine Dr.val Grow.refl rfl (fun w hG => Runs.addI rfl rfl rfl (by omega) (by omega)) rfl ?_
      refine Dr.val Grow.refl rfl (fun w hG => Runs.quoI rfl rfl rfl (by omega) (by omega) (by omega)) rfl ?_
      refine Dr.val Grow.refl rfl (fun w hG => Runs.indexB rfl rfl rfl Tryz.underlying60 (by kernel_rfl) (j := q) (by omega) (by omega)) rfl ?_
      refine Dr.val Grow.refl rfl (fun w hG => Runs.load1 rfl rfl Tryz.underlying5 rfl ((ob.step hG).cell hb)) rfl ?_
      refine Dr.val Grow.refl rfl (fun w hG => Runs.move rfl rfl) rfl ?_
      refine Dr.val Grow.refl rfl (fun w hG => Runs.move rfl rfl) rfl ?_
      refine Dr.val Grow.refl rfl (fun w hG => Runs.addI rfl rfl rfl (by omega) (by omega)) rfl ?_
      refine Dr.val Grow.refl rfl (fun w hG => Runs.remN rfl rfl rfl (by omega) (by omega)) rfl ?_
      have hre : ((at_ : Int) + (i : Int)) % 8 = (r : Int) := by omega
      refine Dr.val Grow.refl rfl (fun w hG => Runs.shlW (r := ((2 ^ r : Nat) : Int)) rfl rfl rfl (by omega) (by rw [hre]; exact shl_bit r (by omega))) rfl ?_
      refine Dr.val Grow.refl rfl (fun w hG => Runs.xor8 rfl rfl rfl hb256 hr8) rfl ?_
      refine Dr.val Grow.refl rfl (fun w hG => Runs.indexB rfl rfl rfl Tryz.underlying60 (by kernel_rfl) (j := q) (by omega) (by omega)) rfl ?_
      refine FinX.done (F' := [(2, _), (3, _), (9, _), (10, _), (11, _), (12, _), (39, _), (40, _), (66, _), (79, _), (80, _)]) rfl ⟨rfl, rfl, rfl, rfl, rfl, rfl, rfl, rfl, rfl, rfl, rfl, trivial⟩ ?_
      intro w2 hw2 fw2
      replace bel := bel.step hw2
      replace ob := ob.step hw2
      replace k9 := k9.step hw2
      refine Seq.storeB rfl rfl rfl (by kernel_rfl) ob (by omega) rfl rfl ?_
      intro wb ob2 hbw
      replace bel := bel.trans (hbw.mono hg10)
      rw [← hrs2, hcur, ← hrs] at ob2
      clear ob k9
      refine Seq.nil ?_
      refine Post.weak (F' := [(2, _), (3, _), (9, _), (10, _), (11, _), (12, _), (39, _), (40, _), (66, _)]) ⟨rfl, rfl, rfl, rfl, rfl, rfl, rfl, rfl, rfl, trivial⟩ ?_
      refine Post.then_ ?_
      refine Cd.region ?_
      refine Seq.val (Runs.assign rfl rfl) rfl rfl rfl ?_
      refine Seq.nil ?_
      refine Post.weak (F' := [(2, _), (3, _), (9, _), (10, _), (11, _), (12, _), (39, _), (40, _), (66, _)]) ⟨rfl, rfl, rfl, rfl, rfl, rfl, rfl, rfl, rfl, trivial⟩ ?_
      refine Post.block_normal ?_
      refine Post.then_ ?_
      refine Cd.region ?_
      refine Seq.val (Runs.addI rfl rfl rfl (by omega) (by omega)) rfl rfl rfl ?_
      refine Seq.val (Runs.move rfl rfl) rfl rfl rfl ?_
      refine Seq.nil ?_
      refine Post.weak (F' := [(2, _), (3, _), (9, _), (10, _), (11, _), (12, _), (39, _), (40, _), (66, _)]) ⟨rfl, rfl, rfl, rfl, rfl, rfl, rfl, rfl, rfl, trivial⟩ ?_
      exact Post.round (i + 1, true) ⟨rfl, rfl, rfl, rfl, rfl, int_at (by omega), trivial⟩ ⟨by simp only; omega, bel, ob2⟩ (by simp only; omega)
    · have hP : ¬ (bits / 2 ^ i % 2 = 1 ∧ at_ + i < 8 * safe) := by
        rintro ⟨h1, h2⟩
        have h' : (decide (((bits / 2 ^ i % 2 : Nat) : Int) = 1) && decide ((at_ : Int) / 8 < (safe : Int)) && decide ((at_ : Int) + (i : Int) < 8 * (safe : Int))) = false := h
        rw [h1, decide_eq_true (show ((1 : Nat) : Int) = 1 from rfl), decide_eq_true (show (at_ : Int) / 8 < (safe : Int) by omega), decide_eq_true (show (at_ : Int) + (i : Int) < 8 * (safe : Int) by omega)] at h'
        cases h'
      have hrs2 : rotS safe at_ bits i (rotG safe at_ bits data i) = rotG safe at_ bits data i := by unfold rotS; rw [if_neg hP]
      refine Cd.skip ?_
      refine Post.block_normal ?_
      refine Post.then_ ?_
      refine Cd.region ?_
      refine Seq.val (Runs.addI rfl rfl rfl (by omega) (by omega)) rfl rfl rfl ?_
      refine Seq.val (Runs.move rfl rfl) rfl rfl rfl ?_
      refine Seq.nil ?_
      refine Post.weak (F' := [(2, _), (3, _), (9, _), (10, _), (11, _), (12, _), (39, _), (40, _), (66, _)]) ⟨rfl, rfl, rfl, rfl, rfl, rfl, rfl, rfl, rfl, trivial⟩ ?_
      exact Post.round (i + 1, tu) ⟨rfl, rfl, rfl, rfl, rfl, int_at (by omega), trivial⟩ ⟨by simp only; omega, bel, by simp only; rw [hrs, hrs2]; exact ob⟩ (by simp only; omega)
  · obtain rfl : i = 32 := by omega
    replace ob : OwnB wr g10 (rotN safe at_ bits data) := ob
    have hul : (rotN safe at_ bits data).length = data.length := hu1
    have hub : Byt (rotN safe at_ bits data) := hu2
    generalize rotN safe at_ bits data = nd at ob hul hub ⊢
    have hrd := ob.reads
    rw [hul] at hrd
    have df : Df B w wr := Df.grow bel
    have k0 := K0.step bel
    have mp := MP.step bel
    have fx := FX.step bel
    clear bel ob
    refine Cd.exit ?_
    refine Post.then_exit ?_
    refine Post.round_exit ?_
    refine Post.block_exit ?_
    refine Post.then_ ?_
    refine Cd.seq ?_
    refine Cd.region ?_
    refine Seq.val (Runs.move rfl rfl) rfl rfl rfl ?_
    refine Seq.val (Runs.move rfl rfl) rfl rfl rfl ?_
    refine Seq.val (Runs.convBS rfl rfl Tryz.underlying60 Tryz.underlying5 Tryz.underlying9 hrd hub) rfl rfl rfl ?_
    refine Seq.val (Runs.nilCheck rfl rfl) rfl rfl rfl ?_
    refine Seq.val (Runs.fieldB 0 rfl rfl Tryz.underlying91 rfl (by kernel_rfl)) rfl rfl rfl ?_
    refine Seq.store1 rfl rfl rfl (by kernel_rfl) rfl rfl k9 rfl rfl rfl ?_
    intro w1 pw1
    replace df := df.put k9 pw1 e9
    replace k0 := k0.put pw1 (by omega)
    replace mp := mp.put k9 pw1 e9
    replace fx := fx.put k9 pw1 e9
    replace k9 := pw1.blk
    refine Seq.nil ?_
    refine Post.weak (F' := [(2, _), (3, _), (9, _), (10, _), (11, _), (39, _), (40, _)]) ⟨rfl, rfl, rfl, rfl, rfl, rfl, rfl, trivial⟩ ?_
    refine Post.then_ ?_
    refine Cd.seq ?_
    refine Cd.region ?_
    refine Seq.val (Runs.move rfl rfl) rfl rfl rfl ?_
    refine Seq.val (Runs.assign rfl rfl) rfl rfl rfl ?_
    refine Seq.nil ?_
    refine Post.weak (F' := [(2, _), (3, _), (8, _), (9, _), (10, _), (11, _), (39, _), (40, _)]) ⟨rfl, rfl, rfl, rfl, rfl, rfl, rfl, rfl, trivial⟩ ?_
    refine Post.then_ ?_
    refine Cd.ret ?_
    refine Post.end1 rfl rfl (.inl rfl) ?_
    replace k9 : Blk _ g9 91 (Fil.mk nd safe).cs := k9
    have hsz : ∀ p ∈ D.files, p.1 = nm → p.2.data.length = (Fil.mk nd safe).data.length := fun p hp e => by
      rw [fl0] at hp
      obtain ⟨q, hq, rfl⟩ := List.mem_map.1 hp
      rw [show q.2 = g9 from (mem_one hnn hnd (lk_mem hg9) hq).1 e, hF]
      exact hul.symm
    have hus : usedL (D.files.map fun p => if p.1 = nm then (p.1, Fil.mk nd safe) else p) = usedL D.files := usedL_set hsz
    have hu2 : (D.set nm ⟨nd, safe⟩).used = D.used := congrArg Int.ofNat hus
    refine ⟨tu, rfl, ⟨m, l, setF F g9 ⟨nd, safe⟩, c1, c2, ?_, mp, hm, fx.on k9, ?_, e0, ⟨ok0.room0, ok0.room1, by rw [hu2]; exact ok0.fits, ok0.left0, ok0.left1, ?_, ?_⟩⟩, df⟩
    · unfold Dk.cs
      rw [hu2]
      exact k0
    · show (D.files.map _) = _
      rw [fl0]
      exact fsOf_set hnn hnd hg9 _
    · intro p hp
      obtain ⟨q, hq, rfl⟩ := List.mem_map.1 hp
      have h1 := ok0.fil q hq
      by_cases e : q.1 = nm
      · rw [if_pos e]
        exact ⟨⟨hub, by simp only; omega, by simp only; omega⟩, h1.2⟩
      · rw [if_neg e]; exact h1
    · show (D.files.map _).length ≤ 200
      rw [List.length_map]
      exact ok0.most
end Go.Proofs.YtnlepoplncjliaaGreatDoor

namespace Go.Proofs.YtnlepoplncjliaaGreatDoor
open Go.RowKit

theorem set_get (D : Dk) (a : List Nat) (f : Fil) (x : List Nat) : (D.set a f).get x = if x = a then (D.get a).map fun _ => f else D.get x := by
  have h := map_get D.files a f x
  have e1 : (D.set a f).get x = ((D.files.map fun p => if p.1 = a then (p.1, f) else p).find? (fun p => decide (p.1 = x))).map (·.2) := rfl
  rw [e1, h]
  by_cases e : x = a
  · subst e
    rw [if_pos rfl, if_pos rfl]
    unfold Dk.get
    rw [Option.map_map]
    rfl
  · rw [if_neg e, if_neg e]
    rfl
theorem set_names (D : Dk) (a : List Nat) (f : Fil) : (D.set a f).files.map (·.1) = D.files.map (·.1) := by
  show (D.files.map _).map _ = _
  rw [List.map_map]
  refine List.map_congr_left fun p _ => ?_
  simp only [Function.comp]
  split <;> rfl
theorem segs_le_recs : ∀ (segs : List (Nat × List (List Nat))), (∀ s ∈ segs, s.2 ≠ []) → segs.length ≤ (recsOf segs).length
  | [], _ => Nat.le_refl _
  | s :: r, h => by
    have ih := segs_le_recs r fun t ht => h t (List.mem_cons_of_mem _ ht)
    have e : recsOf (s :: r) = (s.2.map fun x => (s.1, x)) ++ recsOf r := by simp [recsOf]
    have hs : 0 < s.2.length := by
      rcases Nat.eq_zero_or_pos s.2.length with h0 | h0
      · exact absurd (List.eq_nil_of_length_eq_zero h0) (h s List.mem_cons_self)
      · exact h0
    rw [e, List.length_append, List.length_map, List.length_cons]
    omega
end Go.Proofs.YtnlepoplncjliaaGreatDoor

namespace Go.Proofs.YtnlepoplncjliaaGreatDoor
open Go.RowKit

/-- A segment that a crash left: its frames, perhaps bytes behind them. -/
structure Nice (t : List Nat × List Nat) : Prop where
  ex : ∃ R T, t.1 = framesN R ++ T ∧ (∀ s ∈ R, Byt s ∧ s.length ≤ 131072) ∧ R.length ≤ 131072 ∧ (allN t.1).1 = R ∧ (countN t.2).1 ≤ R.length ∧ (countN t.2).2 = false ∧ (¬ ((countN t.2).1 < R.length ∨ (allN t.1).2.1 < t.1.length) → t = (framesN R, marksN R.length))
theorem nice_plain {l : List (List Nat)} (hs : ∀ s ∈ l, Byt s ∧ s.length ≤ 131072) (hl : l.length ≤ 131072) : Nice (framesN l, marksN l.length) := by
  have h1 := allN_frames fun s h => (hs s h).2
  have h2 := countN_marks hl
  refine ⟨l, [], ?_, hs, hl, ?_, ?_, ?_, fun _ => rfl⟩
  · show framesN l = framesN l ++ []
    rw [List.append_nil]
  · show (allN (framesN l)).1 = l
    rw [h1]
  · show (countN (marksN l.length)).1 ≤ _
    rw [h2]
    exact Nat.le_refl _
  · show (countN (marksN l.length)).2 = false
    rw [h2]
theorem nice_less {l : List (List Nat)} {K : List Nat} (hs : ∀ s ∈ l, Byt s ∧ s.length ≤ 131072) (hl : l.length ≤ 131072) (h1 : (countN K).1 ≤ l.length) (h2 : (countN K).2 = false) (h3 : (countN K).1 = l.length → K = marksN l.length) : Nice (framesN l, K) := by
  have h4 := allN_frames fun s h => (hs s h).2
  refine ⟨l, [], ?_, hs, hl, ?_, h1, h2, fun hn => ?_⟩
  · show framesN l = framesN l ++ []
    rw [List.append_nil]
  · show (allN (framesN l)).1 = l
    rw [h4]
  · have hn1 : ¬ (countN K).1 < l.length := fun e => hn (.inl e)
    rw [h3 (by omega)]
theorem allGo_none {f : Nat} {s : List Nat} (h : (allGo f s).1 = []) : (allGo f s).2.1 = 0 := by
  cases f with
  | zero => rfl
  | succ f =>
    unfold allGo at h ⊢
    split
    · rfl
    · rename_i h1
      rw [if_neg h1] at h
      split
      · rfl
      · rename_i h2
        rw [if_neg h2] at h
        cases h
theorem allGo_end : ∀ (l : List (List Nat)) (T : List Nat) (f : Nat), (∀ s ∈ l, s.length ≤ 131072) → (framesN l ++ T).length ≤ f → (allGo f (framesN l ++ T)).2.1 = (framesN l).length + (allN T).2.1
  | [], T, f, _, h => by
    show (allGo f T).2.1 = ([] : List Nat).length + (allN T).2.1
    unfold allN
    rw [allGo_fuel f T T.length (by simpa [framesN] using h) (Nat.le_refl _), List.length_nil, Nat.zero_add]
  | d :: l, T, f, hs, h => by
    have e : framesN (d :: l) ++ T = frameN d ++ (framesN l ++ T) := by simp [framesN]
    have e2 : framesN (d :: l) = frameN d ++ framesN l := by simp [framesN]
    rw [e] at h ⊢
    have hfl := frameN_len d
    rw [List.length_append, hfl] at h
    obtain ⟨f, rfl⟩ : ∃ k, f = k + 1 := ⟨f - 1, by omega⟩
    have ho := openN_frame (s := d) (framesN l ++ T) (hs d List.mem_cons_self)
    have hne : frameN d ++ (framesN l ++ T) ≠ [] := fun h0 => by
      have := congrArg List.length h0
      rw [List.length_append, hfl] at this
      simp at this
    rw [allGo, if_neg hne, ho, if_neg (by simp)]
    simp only
    rw [List.drop_left' hfl, allGo_end l T f (fun s h2 => hs s (List.mem_cons_of_mem _ h2)) (by omega), e2, List.length_append, hfl]
    omega
theorem nice_front {l : List (List Nat)} {d T : List Nat} (hs : ∀ s ∈ l, Byt s ∧ s.length ≤ 131072) (hll : l.length + 1 ≤ 131072) (hd : Byt d) (hdl : d.length ≤ 131072) (h : Sect ((frameN d).take T.length) T) (hl : T.length ≤ d.length + 12) : Nice (framesN l ++ T, marksN l.length) := by
  have hs2 : ∀ s ∈ l, s.length ≤ 131072 := fun s h => (hs s h).2
  have hc := countN_marks (k := l.length) (by omega)
  have ha : (allN (framesN l ++ T)).1 = l ++ (allN T).1 := allGo_app l T _ hs2 (Nat.le_refl _)
  have hb : (allN (framesN l ++ T)).2.1 = (framesN l).length + (allN T).2.1 := allGo_end l T _ hs2 (Nat.le_refl _)
  by_cases hw : T ≠ [] ∧ (openN T).2.2 = 0
  · have hT := front_whole hd hdl h hl hw.2
    have e : framesN l ++ T = framesN (l ++ [d]) := by rw [framesN_app, framesN_one, hT]
    rw [e]
    refine nice_less (fun s hm => ?_) (by rw [List.length_append, List.length_singleton]; omega) (by rw [hc, List.length_append]; exact Nat.le_add_right _ _) (by rw [hc]) (fun e2 => ?_)
    · rcases List.mem_append.1 hm with hm | hm
      · exact hs s hm
      · simp at hm
        subst hm
        exact ⟨hd, hdl⟩
    · rw [hc, List.length_append, List.length_singleton] at e2
      exact absurd (show l.length = l.length + 1 from e2) (by omega)
  · have hn : (allN T).1 = [] := by
      by_cases hT : T = []
      · rw [hT]; rfl
      · unfold allN
        obtain ⟨k, hk⟩ : ∃ k, T.length = k + 1 := ⟨T.length - 1, by have := List.length_pos_iff.2 hT; omega⟩
        rw [hk, allGo, if_neg hT, if_pos (fun e => hw ⟨hT, e⟩)]
    have hn2 : (allN T).2.1 = 0 := allGo_none hn
    rw [hn, List.append_nil] at ha
    rw [hn2, Nat.add_zero] at hb
    refine ⟨l, T, rfl, hs, by omega, ha, ?_, ?_, fun hno => ?_⟩
    · show (countN (marksN l.length)).1 ≤ _
      rw [hc]
      exact Nat.le_refl _
    · show (countN (marksN l.length)).2 = false
      rw [hc]
    · have h1 : ¬ (allN (framesN l ++ T)).2.1 < (framesN l ++ T).length := fun e => hno (.inr e)
      rw [hb, List.length_append] at h1
      have hT : T = [] := List.eq_nil_of_length_eq_zero (by omega)
      rw [hT, List.append_nil]
theorem countN_tail_eq {c : Nat} {T : List Nat} (hc : c + 1 ≤ 131072) (hT : T.length ≤ 12) (h : Sect ((markN (c + 1)).take T.length) T) (h1 : (countN (marksN c ++ T)).1 = c + 1) : marksN c ++ T = marksN (c + 1) := by
  have hm : marksN c = marksL ((List.range c).map (· + 1)) := rfl
  have hgo : countN (marksN c ++ T) = cntGo (marksN c ++ T).length (c, false) T := by
    unfold countN
    conv => lhs; rw [hm]
    rw [cntGo_app _ _ _ _ (fun n hn => by
      obtain ⟨k, hk, rfl⟩ := List.mem_map.1 hn
      have := List.mem_range.1 hk
      omega) (Nat.le_refl _), fold_max]
    rfl
  rw [hgo] at h1
  obtain ⟨f, hf⟩ : ∃ f, (marksN c ++ T).length = f := ⟨_, rfl⟩
  rw [hf] at h1
  cases f with
  | zero => exact absurd (show c = c + 1 from h1) (by omega)
  | succ f =>
    rw [cntGo] at h1
    by_cases hl : 12 ≤ T.length
    · rw [if_pos hl, List.take_of_length_le hT, List.drop_eq_nil_of_le hT] at h1
      have h0 : ∀ f (x : Nat × Bool), cntGo f x [] = x := fun f x => by cases f <;> simp [cntGo]
      rw [h0] at h1
      rw [List.take_of_length_le (by rw [markN_len]; exact hl)] at h
      by_cases hv : T = markN (valB (T.take 8))
      · have hs : Sect (beB 8 (c + 1) ++ laidC (beB 8 (c + 1))) (beB 8 (valB (T.take 8)) ++ laidC (beB 8 (valB (T.take 8)))) := by
          have e1 : markN (c + 1) = beB 8 (c + 1) ++ laidC (beB 8 (c + 1)) := rfl
          have e2 : markN (valB (T.take 8)) = beB 8 (valB (T.take 8)) ++ laidC (beB 8 (valB (T.take 8))) := rfl
          rw [← e1, ← e2, ← hv]
          exact h
        have q := hs.valid (by rw [beB_len, beB_len]) rfl rfl
        have hq : T = markN (c + 1) := hv.trans q.symm
        rw [marksN_succ, hq]
      · unfold cntStep at h1
        rw [if_pos (.inr hv)] at h1
        exact absurd (show c = c + 1 from h1) (by omega)
    · rw [if_neg hl] at h1
      exact absurd (show c = c + 1 from h1) (by omega)
theorem knownN_eq (t : List Nat × List Nat) : knownN t = if (allN t.1).1.length < (countN t.2).1 then ([], false, false) else if (countN t.2).2 = true then ((allN t.1).1.take (countN t.2).1, false, true) else ((allN t.1).1, decide ((countN t.2).1 < (allN t.1).1.length ∨ (allN t.1).2.1 < t.1.length), true) := rfl
/-- A segment that was settled: as it is laid, or sealed. -/
def SetF (R : List (List Nat)) (S : List Nat × List Nat) : Prop := S = (framesN R, marksN R.length) ∨ ∃ T, S = (framesN R ++ T, markN (4294967296 + R.length)) ∧ (allN (framesN R ++ T)).1 = R
theorem Nice.settle {n : Nat} {t : List Nat × List Nat} (h : Nice t) : ∃ R, (knownN t).1 = R ∧ (knownN t).2.2 = true ∧ (∀ s ∈ R, Byt s ∧ s.length ≤ 131072) ∧ R.length ≤ 131072 ∧ SetF R (settle (n, t)).2 := by
  obtain ⟨R, T, h1, h2, h3, h4, h5, h6, h7⟩ := h
  have hk := knownN_eq t
  rw [h4, if_neg (by omega), if_neg (by rw [h6]; simp)] at hk
  refine ⟨R, by rw [hk], by rw [hk], h2, h3, ?_⟩
  unfold Go.Proofs.YtnlepoplncjliaaGreatDoor.settle
  show SetF R (t.1, if (knownN t).2.1 then markN (4294967296 + (knownN t).1.length) else t.2)
  rw [hk]
  simp only
  by_cases hf : (countN t.2).1 < R.length ∨ (allN t.1).2.1 < t.1.length
  · rw [decide_eq_true hf, if_pos rfl]
    exact .inr ⟨T, by rw [h1], by rw [← h1, h4]⟩
  · rw [decide_eq_false hf, if_neg (by simp)]
    exact .inl (h7 hf)
/-- Frames with bytes behind them, behind a burst. -/
theorem frames_burst_tail : ∀ (l : List (List Nat)) (T : List Nat) (f : Nat) (t : List Nat), (∀ s ∈ l, Byt s ∧ s.length ≤ 131072) → Burst (framesN l ++ T) t → t.length ≤ f → (∃ T', t = framesN l ++ T') ∨ (allGo f t).1.length < l.length
  | [], T, f, t, _, _, _ => .inl ⟨t, by simp [framesN]⟩
  | d :: l, T, f, t, hs, h, hf => by
    obtain ⟨hd, hdl⟩ := hs d List.mem_cons_self
    have e : framesN (d :: l) = frameN d ++ framesN l := by simp [framesN]
    rw [e, List.append_assoc] at h
    have hfl := frameN_len d
    have htl : t.length = d.length + 12 + (framesN l ++ T).length := by rw [← h.len, List.length_append, hfl]
    obtain ⟨f, rfl⟩ : ∃ k, f = k + 1 := ⟨f - 1, by omega⟩
    have hne : t ≠ [] := fun h0 => by
      rw [h0] at htl
      have : ([] : List Nat).length = 0 := rfl
      omega
    rw [allGo, if_neg hne]
    by_cases hw : (openN t).2.2 = 0
    · have q := h.frame hd hdl hw
      have ht : t = frameN d ++ t.drop (d.length + 12) := by rw [← q, List.take_append_drop]
      have ho := openN_frame (s := d) (t.drop (d.length + 12)) hdl
      rw [← ht] at ho
      have hb := h.drop (d.length + 12)
      rw [List.drop_left' hfl] at hb
      rw [if_neg (by omega), ho]
      rcases frames_burst_tail l T f _ (fun s h2 => hs s (List.mem_cons_of_mem _ h2)) hb (by rw [List.length_drop]; omega) with ⟨T', h1⟩ | h1
      · left
        refine ⟨T', ?_⟩
        rw [ht, h1, e, List.append_assoc]
      · right
        simp only [List.length_cons]
        omega
    · right
      rw [if_pos hw]
      simp
theorem SetF.log {R : List (List Nat)} {S : List Nat × List Nat} {t : List Nat} (h : SetF R S) (hs : ∀ s ∈ R, Byt s ∧ s.length ≤ 131072) (hl : R.length ≤ 131072) (hb : Burst S.1 t) (hk : (knownN (t, S.2)).2.2 = true) : (knownN (t, S.2)).1 = R := by
  have hs2 : ∀ s ∈ R, s.length ≤ 131072 := fun s h => (hs s h).2
  have hkn := knownN_eq (t, S.2)
  simp only at hkn
  rcases h with rfl | ⟨T, rfl, hT⟩
  · simp only at hb hk hkn ⊢
    rw [countN_marks hl] at hkn
    rcases frames_burst R t.length t hs hb (Nat.le_refl _) with h1 | h1
    · rw [h1, known_plain hs2 hl]
    · have h1 : (allN t).1.length < R.length := h1
      rw [if_pos h1] at hkn
      rw [hkn] at hk
      cases hk
  · simp only at hb hk hkn ⊢
    rw [countN_seal hl] at hkn
    rcases frames_burst_tail R T t.length t hs hb (Nat.le_refl _) with ⟨T', h1⟩ | h1
    · have ha : (allN t).1 = R ++ (allN T').1 := by rw [h1]; exact allGo_app R T' _ hs2 (Nat.le_refl _)
      rw [ha, if_neg (by rw [List.length_append]; simp only; omega), if_pos rfl] at hkn
      rw [hkn]
      show (R ++ _).take R.length = R
      exact List.take_left' rfl
    · have h1 : (allN t).1.length < R.length := h1
      rw [if_pos h1] at hkn
      rw [hkn] at hk
      cases hk
theorem SetF.ack {R : List (List Nat)} {S : List Nat × List Nat} {t : List Nat} (h : SetF R S) (hs : ∀ s ∈ R, Byt s ∧ s.length ≤ 131072) (hl : R.length ≤ 131072) (hb : Burst S.2 t) : (knownN (S.1, t)).1 = R ∧ (knownN (S.1, t)).2.2 = true := by
  have hs2 : ∀ s ∈ R, s.length ≤ 131072 := fun s h => (hs s h).2
  have hkn := knownN_eq (S.1, t)
  simp only at hkn
  rcases h with rfl | ⟨T, rfl, hT⟩
  · simp only at hb hkn ⊢
    obtain ⟨h1, h2⟩ := countN_burst hl hb
    have := known_less hs2 h1 h2
    exact ⟨this.2, this.1⟩
  · simp only at hb hkn ⊢
    rw [hT] at hkn
    have hml := markN_len (4294967296 + R.length)
    have htl : t.length = 12 := by rw [← hb.len, hml]
    have hc : countN t = cntStep (0, false) t := by
      unfold countN
      rw [htl, cntGo, if_pos (by omega), List.take_of_length_le (by omega), List.drop_eq_nil_of_le (by omega)]
      have : ∀ f (x : Nat × Bool), cntGo f x [] = x := fun f x => by cases f <;> simp [cntGo]
      rw [this]
    by_cases hv : t = markN (valB (t.take 8))
    · have hq : t = markN (4294967296 + R.length) := by
        have hb2 : Burst (beB 8 (4294967296 + R.length) ++ laidC (beB 8 (4294967296 + R.length))) (beB 8 (valB (t.take 8)) ++ laidC (beB 8 (valB (t.take 8)))) := by
          have h2 := hb
          rw [hv] at h2
          exact h2
        have q := hb2.valid (by rw [beB_len, beB_len]) rfl rfl
        rw [hv]
        exact q.symm
      rw [hq, countN_seal hl, if_neg (by simp), if_pos rfl] at hkn
      rw [hq, hkn]
      exact ⟨List.take_of_length_le (Nat.le_refl _), rfl⟩
    · have hz : countN t = (0, false) := by
        rw [hc]
        unfold cntStep
        rw [if_pos (.inr hv)]
      rw [hz, if_neg (by simp), if_neg (by simp)] at hkn
      rw [hkn]
      exact ⟨rfl, rfl⟩
theorem SetF.same {R : List (List Nat)} {S : List Nat × List Nat} (h : SetF R S) (hs : ∀ s ∈ R, Byt s ∧ s.length ≤ 131072) (hl : R.length ≤ 131072) : (knownN S).1 = R ∧ (knownN S).2.2 = true := by
  have hs2 : ∀ s ∈ R, s.length ≤ 131072 := fun s h => (hs s h).2
  have hkn := knownN_eq S
  rcases h with rfl | ⟨T, rfl, hT⟩
  · rw [known_plain hs2 hl]
    exact ⟨rfl, rfl⟩
  · simp only at hkn
    rw [hT, countN_seal hl, if_neg (by simp), if_pos rfl] at hkn
    rw [hkn]
    exact ⟨List.take_of_length_le (Nat.le_refl _), rfl⟩
end Go.Proofs.YtnlepoplncjliaaGreatDoor

namespace Go.Proofs.YtnlepoplncjliaaGreatDoor
open Go.RowKit

/-- What opening finds behind a crash: these records, or more behind them. -/
structure Left (F : Dk) (recs more : List (Nat × List Nat)) : Prop where
  ex : ∃ gs, GenIs F [119] gs ∧ (∀ g ∈ gs, (knownN g.2).2.2 = true ∧ (knownN g.2).1.length ≤ 131072) ∧ (recsG gs = recs ∨ recsG gs = recs ++ more) ∧ gs.length ≤ 40 ∧ ∀ g ∈ gs, Nice g.2
  files : F.files.length ≤ 70
  used : F.used ≤ 20000
  room : F.room = 1048576
theorem get_of_mem {D : Dk} (hn : (D.files.map (·.1)).Nodup) {p : List Nat × Fil} (hp : p ∈ D.files) : D.get p.1 = some p.2 := by
  obtain ⟨f, hf⟩ := Option.isSome_iff_exists.1 (mem_names.1 (List.mem_map.2 ⟨p, hp, rfl⟩))
  have h2 := get_mem hf
  obtain ⟨i, hi, e1⟩ := List.getElem_of_mem hp
  obtain ⟨j, hj, e2⟩ := List.getElem_of_mem h2
  have h3 : (D.files.map (·.1))[i]? = (D.files.map (·.1))[j]? := by
    rw [List.getElem?_map, List.getElem?_map, List.getElem?_eq_getElem hi, List.getElem?_eq_getElem hj, e1, e2]
    rfl
  have h4 := (List.getElem?_inj (by rw [List.length_map]; exact hi) hn).1 h3
  subst h4
  rw [e1] at e2
  rw [hf, e2]
theorem Left.of {E : Dk} {kf : List Nat → Int × Int} {gs : List (Nat × (List Nat × List Nat))} {recs more : List (Nat × List Nat)} (hn : (E.files.map (·.1)).Nodup) (hs : ∀ x f, E.get x = some f → f.safe ≤ f.data.length) (hf : E.files.length ≤ 70) (hu : E.used ≤ 20000) (hr : E.room = 1048576)
    (hg : GenIs (E.crashed kf) [119] gs) (hk : ∀ g ∈ gs, (knownN g.2).2.2 = true ∧ (knownN g.2).1.length ≤ 131072) (hR : recsG gs = recs ∨ recsG gs = recs ++ more) (hl : gs.length ≤ 40) (hN : ∀ g ∈ gs, Nice g.2) : Left (E.crashed kf) recs more := by
  refine ⟨⟨gs, hg, hk, hR, hl, hN⟩, ?_, ?_, hr⟩
  · have := congrArg List.length (crashed_names E kf)
    rw [List.length_map, List.length_map] at this
    omega
  · have := crashed_used (D := E) (fun p hp => hs p.1 p.2 (get_of_mem hn hp)) kf
    omega
theorem known_norm {segs : List (Nat × List (List Nat))} (h : ∀ s ∈ segs, (∀ r ∈ s.2, r.length ≤ 131072) ∧ s.2.length ≤ 131072) : ∀ g ∈ segs.map norm, (knownN g.2).2.2 = true ∧ (knownN g.2).1.length ≤ 131072 := fun g hg => by
  obtain ⟨s, hs, rfl⟩ := List.mem_map.1 hg
  obtain ⟨h1, h2⟩ := h s hs
  have e : knownN (norm s).2 = (s.2, false, true) := known_plain h1 h2
  rw [e]
  exact ⟨rfl, h2⟩
theorem nice_norm {segs : List (Nat × List (List Nat))} (h : ∀ s ∈ segs, (∀ r ∈ s.2, Byt r ∧ r.length ≤ 131072) ∧ s.2.length ≤ 131072) : ∀ g ∈ segs.map norm, Nice g.2 := fun g hg => by
  obtain ⟨s, hs, rfl⟩ := List.mem_map.1 hg
  obtain ⟨h1, h2⟩ := h s hs
  exact nice_plain h1 h2
theorem LogIs.bounds2 {D : Dk} {nm : List Nat} {segs : List (Nat × List (List Nat))} (h : LogIs D nm segs) : ∀ s ∈ segs, (∀ r ∈ s.2, Byt r ∧ r.length ≤ 131072) ∧ s.2.length ≤ 131072 := fun s hs => ⟨fun r hr => (h.recs s hs).2.1 r hr, (h.recs s hs).2.2⟩
theorem recsG_one (n : Nat) (t : List Nat × List Nat) : recsG [(n, t)] = (knownN t).1.map fun x => (n, x) := by simp [recsG]
section
variable {D : Dk} {W : Wl} {segs : List (Nat × List (List Nat))} {k : Nat}
theorem PlIs.segs_few (h : PlIs D W segs k) : segs.length ≤ k := Nat.le_trans (segs_le_recs segs (fun s hs => (h.wl.log.recs s hs).1)) h.recs
theorem PlIs.left_all (h : PlIs D W segs k) (hk : k ≤ 31) {E : Dk} (hf : E.files = D.files) (hr : E.room = D.room) (kf : List Nat → Int × Int) (more : List (Nat × List Nat)) : Left (E.crashed kf) (recsOf segs) more := by
  have h1 := h.room
  have h2 := h.files
  have h3 := h.used
  have h4 := h.segs_few
  have hget : ∀ x, E.get x = D.get x := fun x => by unfold Dk.get; rw [hf]
  have hfull : ∀ x f, E.get x = some f → f.safe = f.data.length := fun x f e => h.wl.log.full_ (by rw [← hget]; exact e)
  have hcg : ∀ x, (E.crashed kf).get x = D.get x := fun x => by
    rw [crashed_get, hget]
    cases e : D.get x with
    | none => rfl
    | some f =>
      show some (f.crash _ _) = some f
      rw [crash_full (h.wl.log.full_ e)]
  have hn : (E.files.map (·.1)).Nodup := by rw [hf]; exact h.wl.log.nd
  refine Left.of (gs := segs.map norm) hn (fun x f e => by rw [hfull x f e]; exact Nat.le_refl _) (by rw [hf]; omega) (by unfold Dk.used at h3 ⊢; rw [hf]; omega) (by rw [hr, h1]) (gen_all h.wl.log (crashed_calm _ _) (by rw [crashed_names]; exact hn) hcg) (known_norm h.wl.log.bounds) (.inl (recsG_norm h.wl.log.bounds)) (by rw [List.length_map]; omega) (nice_norm h.wl.log.bounds2)
/-- The last segment cut. -/
theorem PlIs.left_last (h : PlIs D W segs k) (hk : k ≤ 31) {E : Dk} {data L K : List Nat} {ini : List (Nat × List (List Nat))} {l : List (List Nat)} (hw6 : W.num ≤ 999999) (hsegs : if W.count = 0 then segs = ini ∧ l = [] else segs = ini ++ [(W.num, l)]) (hini : ∀ s ∈ ini, s.1 < W.num) (hll : l.length ≤ 131071) (kf : List Nat → Int × Int)
    (hn : (E.files.map (·.1)).Nodup) (hs : ∀ x f, E.get x = some f → f.safe ≤ f.data.length) (hf : E.files.length ≤ 70) (hu : E.used ≤ 20000) (hr : E.room = 1048576)
    (hlog : (E.crashed kf).get (fileN [119] W.num logK) = some (full L)) (hack : ((E.crashed kf).get (fileN [119] W.num ackK) = none ∧ K = []) ∨ (E.crashed kf).get (fileN [119] W.num ackK) = some (full K)) (hoth : ∀ x, x ≠ fileN [119] W.num logK → x ≠ fileN [119] W.num ackK → E.get x = D.get x)
    (hkn : (knownN (L, K)).2.2 = true ∧ ((knownN (L, K)).1 = l ∨ (knownN (L, K)).1 = l ++ [data])) (hni : Nice (L, K)) : Left (E.crashed kf) (recsOf segs) [(W.num, data)] := by
  have h4 := h.segs_few
  have hin : ∀ s ∈ ini, s ∈ segs := fun s hs => by
    split at hsegs
    · rw [hsegs.1]; exact hs
    · rw [hsegs]; exact List.mem_append_left _ hs
  have hil : ini.length ≤ segs.length := by
    split at hsegs
    · rw [hsegs.1]; exact Nat.le_refl _
    · rw [hsegs, List.length_append]; omega
  have hrec : recsOf segs = recsOf ini ++ l.map fun x => (W.num, x) := by
    split at hsegs
    · rw [hsegs.1, hsegs.2]; simp
    · rw [hsegs, recsOf_app]; simp [recsOf]
  have hb : ∀ s ∈ ini, (∀ r ∈ s.2, r.length ≤ 131072) ∧ s.2.length ≤ 131072 := fun s hs => h.wl.log.bounds s (hin s hs)
  have hcg : ∀ x, x ≠ fileN [119] W.num logK → x ≠ fileN [119] W.num ackK → (E.crashed kf).get x = D.get x := fun x h1 h2 => by
    rw [crashed_get, hoth x h1 h2]
    cases e : D.get x with
    | none => rfl
    | some f =>
      show some (f.crash _ _) = some f
      rw [crash_full (h.wl.log.full_ e)]
  have hg := gen_last h.wl.log hw6 hsegs hini (crashed_calm E kf) (by rw [crashed_names]; exact hn) hlog hack hcg
  refine Left.of hn hs hf hu hr hg (fun g hgm => ?_) ?_ (by rw [List.length_append, List.length_map, List.length_singleton]; omega) (fun g hgm => by
    rcases List.mem_append.1 hgm with hgm | hgm
    · exact nice_norm (fun s hs => h.wl.log.bounds2 s (hin s hs)) g hgm
    · simp at hgm
      subst hgm
      exact hni)
  · rcases List.mem_append.1 hgm with hgm | hgm
    · exact known_norm hb g hgm
    · simp at hgm
      subst hgm
      refine ⟨hkn.1, ?_⟩
      rcases hkn.2 with e | e
      · show (knownN (L, K)).1.length ≤ _
        rw [e]; omega
      · show (knownN (L, K)).1.length ≤ _
        rw [e, List.length_append, List.length_singleton]; omega
  · rw [recsG_app, recsG_norm hb, recsG_one, hrec]
    rcases hkn.2 with e | e
    · left; rw [e]
    · right; rw [e, List.map_append, List.append_assoc]; rfl
end
end Go.Proofs.YtnlepoplncjliaaGreatDoor

namespace Go.Proofs.YtnlepoplncjliaaGreatDoor
open Go.RowKit

theorem dead_get (D : Dk) (x : List Nat) : D.dead.get x = D.get x := rfl
theorem dead_crashed (D : Dk) (kf : List Nat → Int × Int) (x : List Nat) : (D.dead.crashed kf).get x = (D.get x).map fun f => f.crash (kf x).1 (kf x).2 := by rw [crashed_get, dead_get]
section
variable {D : Dk} {W : Wl} {segs : List (Nat × List (List Nat))} {k : Nat}
theorem PlIs.append_arm (h : PlIs D W segs k) (hk : k ≤ 30) {data : List Nat} (hd : Byt data) (hdl : data.length ≤ 300) (m : Nat) :
    (∃ D' segs' m', appW W (D.arm m) [119] data = (⟨W.num, W.count + 1, W.size + (data.length + 12), false⟩, D'.arm m', 0) ∧ m' ≤ m ∧ PlIs D' ⟨W.num, W.count + 1, W.size + (data.length + 12), false⟩ segs' (k + 1) ∧ recsOf segs' = recsOf segs ++ [(W.num, data)]) ∨
    (∃ E, appW W (D.arm m) [119] data = ({ W with broken := true }, E, 6) ∧ E.off = true ∧ (∀ p ∈ E.files, OwnNm [119] p.1) ∧ ∀ kf, Left (E.crashed kf) (recsOf segs) [(W.num, data)]) := by
  have p1 := h.room
  have p2 := h.files
  have p3 := h.used
  have p4 := h.num
  have p5 := h.cnt
  have p6 := h.size
  have p7 := h.recs
  obtain ⟨ini, l, hsegs, hini, hcl, hszl⟩ := h.wl.last
  have hL := h.wl.log
  have hc := hL.calm
  have hfrl := frameN_len data
  have hfb := frameN_lt hd
  have hmb := markN_lt (W.count + 1)
  have hml := markN_len (W.count + 1)
  have hturn : W.turned data = W := by unfold Wl.turned; rw [if_neg (by omega)]
  have hrw : ∀ n, roomW (D.arm n) W.num W.count (data.length + 12) = true := fun n => by
    show roomW D W.num W.count (data.length + 12) = true
    unfold roomW
    rw [Bool.and_eq_true, Bool.and_eq_true, Bool.or_eq_true, decide_eq_true_eq, decide_eq_true_eq, decide_eq_true_eq]
    exact ⟨⟨by omega, .inr (by omega)⟩, by omega⟩
  have hll : l.length ≤ 131071 := by omega
  have hls : ∀ s ∈ l, Byt s ∧ s.length ≤ 131072 := fun s hs => by
    split at hsegs
    · rw [hsegs.2] at hs; cases hs
    · exact (hL.recs (W.num, l) (by rw [hsegs]; simp)).2.1 s hs
  have hlsd : ∀ s ∈ l ++ [data], Byt s ∧ s.length ≤ 131072 := fun s hs => by
    rcases List.mem_append.1 hs with hs | hs
    · exact hls s hs
    · simp at hs
      subst hs
      exact ⟨hd, by omega⟩
  have hlds : (l ++ [data]).length ≤ 131072 := by rw [List.length_append, List.length_singleton]; omega
  have hls2 : ∀ s ∈ l ++ [data], s.length ≤ 131072 := fun s hs => by
    rcases List.mem_append.1 hs with hs | hs
    · exact (hls s hs).2
    · simp at hs; subst hs; omega
  have hnone : W.count = 0 → ∀ kk, (kk = logK ∨ kk = ackK) → D.get (fileN [119] W.num kk) = none := fun hc0 kk hkk => by
    rw [if_pos hc0] at hsegs
    cases e : D.get (fileN [119] W.num kk) with
    | none => rfl
    | some f =>
      exfalso
      obtain ⟨s, hs, e2⟩ := hL.own _ (by rw [e]; rfl)
      rw [hsegs.1] at hs
      have h3 := hini s hs
      have : W.num = s.1 := by rcases e2 with e2 | e2 <;> exact (fileN_inj (by omega) (by omega) e2).1
      omega
  have hmem : W.count ≠ 0 → (W.num, l) ∈ segs := fun hc0 => by rw [if_neg hc0] at hsegs; rw [hsegs]; simp
  have hlog : D.fileOf (fileN [119] W.num logK) = full (framesN l) := by
    rw [fileOf_eq]
    by_cases hc0 : W.count = 0
    · rw [hnone hc0 _ (.inl rfl)]
      rw [if_pos hc0] at hsegs
      rw [hsegs.2]
      rfl
    · rw [hL.log _ (hmem hc0)]
      rfl
  have hack : (D.get (fileN [119] W.num ackK) = none ∧ marksN l.length = []) ∨ D.get (fileN [119] W.num ackK) = some (full (marksN l.length)) := by
    by_cases hc0 : W.count = 0
    · left
      rw [if_pos hc0] at hsegs
      exact ⟨hnone hc0 _ (.inr rfl), by rw [hsegs.2]; rfl⟩
    · right
      exact hL.ack _ (hmem hc0)
  have hackf : D.fileOf (fileN [119] W.num ackK) = full (marksN l.length) := by
    rw [fileOf_eq]
    rcases hack with ⟨e1, e2⟩ | e1
    · rw [e1, e2]; rfl
    · rw [e1]; rfl
  have hmkl := marksN_len l.length
  have hne : fileN [119] W.num ackK ≠ fileN [119] W.num logK := fun e => by
    have := (fileN_inj (by omega) (by omega) e).2
    revert this
    decide
  have hlg := name_ok (nm := [119]) (n := W.num) (k := logK) (by simp) (by omega) rfl
  have hak := name_ok (nm := [119]) (n := W.num) (k := ackK) (by simp) (by omega) rfl
  -- the four operations
  have a0 := appendE_calm (s := frameN data) hc hlg (.inr (by omega)) (by rw [hlog]; show (framesN l).length + _ ≤ _; omega) (by omega)
  obtain ⟨a1, a2, a3, a4, a5, a6, a7, a8⟩ := app_sync (D := D) (a := fileN [119] W.num logK) (s := frameN data) hc hL.nd hlg (.inr (by omega)) (by rw [hlog]; show (framesN l).length + _ ≤ _; omega) (by omega)
  have c1 := append_calm (a := fileN [119] W.num logK) (s := frameN data) hc
  have g1 := get_append a0
  have n1 := append_nodup (a := fileN [119] W.num logK) (s := frameN data) hL.nd
  have u1 := append_used hL.nd a0
  have r1 := append_room D (fileN [119] W.num logK) (frameN data)
  have l1 := append_len D (fileN [119] W.num logK) (frameN data)
  rw [hlog] at g1 a8
  obtain ⟨A, hA⟩ : ∃ A, A = D.append (fileN [119] W.num logK) (frameN data) := ⟨_, rfl⟩
  obtain ⟨S, hS⟩ : ∃ S, S = A.sync (fileN [119] W.num logK) := ⟨_, rfl⟩
  have hfoS : S.get (fileN [119] W.num ackK) = D.get (fileN [119] W.num ackK) := by rw [hS, hA, a8, if_neg hne]
  have hfoS2 : S.fileOf (fileN [119] W.num ackK) = full (marksN l.length) := by rw [fileOf_eq, hfoS, ← fileOf_eq, hackf]
  have hD : D.lay [119] W.num W.count (frameN data) = D.lay [119] W.num W.count (frameN data) := rfl
  rw [← hA] at g1 n1 u1 r1 l1 c1 a2
  rw [← hA, ← hS] at a3 a4 a5 a6 a7 a8
  have b0 := appendE_calm (s := markN (W.count + 1)) a3 hak (.inr (by omega)) (by rw [hfoS2]; show (marksN l.length).length + _ ≤ _; omega) (by rw [hml]; omega)
  obtain ⟨b1, b2, b3, b4, b5, b6, b7, b8⟩ := app_sync (D := S) (a := fileN [119] W.num ackK) (s := markN (W.count + 1)) a3 a4 hak (.inr (by omega)) (by rw [hfoS2]; show (marksN l.length).length + _ ≤ _; omega) (by rw [hml]; omega)
  have gM := get_append b0
  have nM := append_nodup (a := fileN [119] W.num ackK) (s := markN (W.count + 1)) a4
  have uM := append_used a4 b0
  have rM := append_room S (fileN [119] W.num ackK) (markN (W.count + 1))
  have lM := append_len S (fileN [119] W.num ackK) (markN (W.count + 1))
  rw [hfoS2] at gM
  obtain ⟨M, hM⟩ : ∃ M, M = S.append (fileN [119] W.num ackK) (markN (W.count + 1)) := ⟨_, rfl⟩
  rw [← hM] at gM nM uM rM lM
  have hlay := lay_arm (D := D) (nm := [119]) (num := W.num) (count := W.count) (s := frameN data) hc a0 (by rw [← hA]; exact a2) (by rw [← hA, ← hS]; exact b0) (by rw [← hA, ← hS]; exact b2) m
  rw [← hA, ← hS, ← hM] at hlay
  -- whose files there are
  have ownD : ∀ x, (D.get x).isSome = true → OwnNm [119] x := fun x hx => by
    obtain ⟨s, hs, e⟩ := hL.own x hx
    rcases e with e | e
    · exact ⟨s.1, logB, hL.le s hs, .inl rfl, e⟩
    · exact ⟨s.1, ackB, hL.le s hs, .inr (.inl rfl), e⟩
  have ownA : ∀ x, (A.get x).isSome = true → OwnNm [119] x := fun x hx => by
    rw [g1] at hx
    by_cases e : x = fileN [119] W.num logK
    · exact ⟨W.num, logB, by omega, .inl rfl, e⟩
    · rw [if_neg e] at hx; exact ownD x hx
  have ownS : ∀ x, (S.get x).isSome = true → OwnNm [119] x := fun x hx => by
    rw [a8] at hx
    by_cases e : x = fileN [119] W.num logK
    · exact ⟨W.num, logB, by omega, .inl rfl, e⟩
    · rw [if_neg e] at hx; exact ownD x hx
  have ownM : ∀ x, (M.get x).isSome = true → OwnNm [119] x := fun x hx => by
    rw [gM] at hx
    by_cases e : x = fileN [119] W.num ackK
    · exact ⟨W.num, ackB, by omega, .inr (.inl rfl), e⟩
    · rw [if_neg e] at hx; exact ownS x hx
  have ownF : ∀ {X : Dk}, (∀ x, (X.get x).isSome = true → OwnNm [119] x) → ∀ p ∈ X.dead.files, OwnNm [119] p.1 := fun hX p hp => hX p.1 (mem_names.1 (List.mem_map.2 ⟨p, hp, rfl⟩))
  have hcut : ∀ E : Dk, (D.arm m).lay [119] W.num W.count (frameN data) = (E, 6) → appW W (D.arm m) [119] data = ({ W with broken := true }, E, 6) := fun E e => by
    unfold appW
    rw [if_neg (by omega), if_neg (by simp [h.wl.broken]), hturn, if_neg (by rw [hrw]; simp), e, if_pos (by simp)]
  have hfrapp : framesN l ++ frameN data = framesN (l ++ [data]) := by rw [framesN_app, framesN_one]
  have hsafe : ∀ x f, D.get x = some f → f.safe ≤ f.data.length := fun x f e => by rw [hL.full_ e]; exact Nat.le_refl _
  have hackc : ∀ kf : List Nat → Int × Int, ((D.get (fileN [119] W.num ackK)).map (fun f => f.crash (kf (fileN [119] W.num ackK)).1 (kf (fileN [119] W.num ackK)).2) = none ∧ marksN l.length = []) ∨ (D.get (fileN [119] W.num ackK)).map (fun f => f.crash (kf (fileN [119] W.num ackK)).1 (kf (fileN [119] W.num ackK)).2) = some (full (marksN l.length)) := fun kf => by
    rcases hack with ⟨e1, e2⟩ | e1
    · left; rw [e1]; exact ⟨rfl, e2⟩
    · right; rw [e1]; show some ((full _).crash _ _) = _; rw [crash_full rfl]
  by_cases m0 : m = 0
  · right
    rw [if_pos m0] at hlay
    exact ⟨D.dead, hcut _ hlay, rfl, ownF ownD, fun kf => h.left_all (E := D.dead) (by omega) rfl rfl kf _⟩
  by_cases m1 : m = 1
  · right
    rw [if_neg m0, if_pos m1] at hlay
    refine ⟨A.dead, hcut _ hlay, rfl, ownF ownA, fun kf => ?_⟩
    obtain ⟨T, t1, t2, t3⟩ := crash_tail (f := ⟨framesN l ++ frameN data, (framesN l).length⟩) (A := framesN l) (Q := frameN data) rfl rfl hfb (kf (fileN [119] W.num logK)).1 (kf (fileN [119] W.num logK)).2
    refine h.left_last (by omega) (by omega) hsegs hini hll kf n1 (fun x f e => ?_) (by show A.files.length ≤ _; omega) (by show A.used ≤ _; omega) (by show A.room = _; omega) (L := framesN l ++ T) (K := marksN l.length) ?_ ?_ (fun x e1 e2 => ?_) (known_front (fun s hs => (hls s hs).2) (by omega) hd (by omega) t3 (by omega)) (nice_front hls (by omega) hd (by omega) t3 (by omega))
    · rw [dead_get, g1] at e
      split at e
      · injection e with e; rw [← e]; show (framesN l).length ≤ (framesN l ++ frameN data).length; rw [List.length_append]; omega
      · exact hsafe x f e
    · rw [dead_crashed, g1, if_pos rfl]
      show some (Fil.crash _ _ _) = _
      exact congrArg some t1
    · rw [dead_crashed, g1, if_neg hne]
      exact hackc kf
    · rw [dead_get, g1, if_neg e1]
  by_cases m2 : m = 2
  · right
    rw [if_neg m0, if_neg m1, if_pos m2] at hlay
    refine ⟨S.dead, hcut _ hlay, rfl, ownF ownS, fun kf => ?_⟩
    refine h.left_last (by omega) (by omega) hsegs hini hll kf a4 (fun x f e => ?_) (by show S.files.length ≤ _; omega) (by show S.used ≤ _; omega) (by show S.room = _; omega) (L := framesN (l ++ [data])) (K := marksN l.length) ?_ ?_ (fun x e1 e2 => ?_) ?_ (nice_less hlsd hlds (by rw [countN_marks (by omega), List.length_append, List.length_singleton]; exact Nat.le_succ _) (by rw [countN_marks (by omega)]) (fun e => by rw [countN_marks (by omega), List.length_append, List.length_singleton] at e; exact absurd (show l.length = l.length + 1 from e) (by omega)))
    · rw [dead_get, a8] at e
      split at e
      · injection e with e; rw [← e]; exact Nat.le_refl _
      · exact hsafe x f e
    · rw [dead_crashed, a8, if_pos rfl]
      show some ((full _).crash _ _) = _
      rw [crash_full rfl]
      show some (full (framesN l ++ frameN data)) = _
      rw [hfrapp]
    · rw [dead_crashed, a8, if_neg hne]
      exact hackc kf
    · rw [dead_get, a8, if_neg e1]
    · have := known_less (l := l ++ [data]) (K := marksN l.length) hls2 (by rw [countN_marks (by omega), List.length_append, List.length_singleton]; show l.length ≤ _; omega) (by rw [countN_marks (by omega)])
      exact ⟨this.1, .inr this.2⟩
  by_cases m3 : m = 3
  · right
    rw [if_neg m0, if_neg m1, if_neg m2, if_pos m3] at hlay
    refine ⟨M.dead, hcut _ hlay, rfl, ownF ownM, fun kf => ?_⟩
    rw [hcl] at gM hmb hml
    have hml2 := markN_len (W.count + 1)
    obtain ⟨T, t1, t2, t3⟩ := crash_tail (f := ⟨marksN l.length ++ markN (l.length + 1), (marksN l.length).length⟩) (A := marksN l.length) (Q := markN (l.length + 1)) rfl rfl hmb (kf (fileN [119] W.num ackK)).1 (kf (fileN [119] W.num ackK)).2
    have hct := countN_tail (c := l.length) (T := T) (by omega) (by omega) t3
    refine h.left_last (by omega) (by omega) hsegs hini hll kf nM (fun x f e => ?_) (by show M.files.length ≤ _; omega) (by show M.used ≤ _; omega) (by show M.room = _; omega) (L := framesN (l ++ [data])) (K := marksN l.length ++ T) ?_ (.inr ?_) (fun x e1 e2 => ?_) ?_ (nice_less hlsd hlds (by rw [List.length_append, List.length_singleton]; exact hct.1) hct.2 (fun e => by rw [List.length_append, List.length_singleton] at e ⊢; exact countN_tail_eq (by omega) (by omega) t3 e))
    · rw [dead_get, gM] at e
      split at e
      · injection e with e; rw [← e]; show (marksN l.length).length ≤ (marksN l.length ++ markN (l.length + 1)).length; rw [List.length_append]; omega
      · rw [a8] at e
        split at e
        · injection e with e; rw [← e]; exact Nat.le_refl _
        · exact hsafe x f e
    · rw [dead_crashed, gM, if_neg (fun e => hne e.symm), a8, if_pos rfl]
      show some ((full _).crash _ _) = _
      rw [crash_full rfl]
      show some (full (framesN l ++ frameN data)) = _
      rw [hfrapp]
    · rw [dead_crashed, gM, if_pos rfl]
      show some (Fil.crash _ _ _) = _
      exact congrArg some t1
    · rw [dead_get, gM, if_neg e2, a8, if_neg e1]
    · have := known_less (l := l ++ [data]) (K := marksN l.length ++ T) hls2 (by rw [List.length_append, List.length_singleton]; exact hct.1) hct.2
      exact ⟨this.1, .inr this.2⟩
  left
  rw [if_neg m0, if_neg m1, if_neg m2, if_neg m3] at hlay
  obtain ⟨D', segs', q1, q2, q3⟩ := h.append hk hd hdl
  have hD' : (D.lay [119] W.num W.count (frameN data)).1 = D' ∧ (D.lay [119] W.num W.count (frameN data)).2 = 0 := by
    unfold appW at q1
    rw [if_neg (by omega), if_neg (by simp [h.wl.broken]), hturn, if_neg (by rw [show roomW D W.num W.count (data.length + 12) = true from hrw 0]; simp)] at q1
    split at q1
    · rename_i hx
      injection q1 with _ q1
      injection q1 with _ q1
      exact absurd q1 hx
    · rename_i hx
      injection q1 with _ q1
      injection q1 with q1 _
      exact ⟨q1, by omega⟩
  refine ⟨D', segs', m - 4, ?_, by omega, q2, q3⟩
  unfold appW
  rw [if_neg (by omega), if_neg (by simp [h.wl.broken]), hturn, if_neg (by rw [hrw]; simp), hlay, hD'.1, if_neg (by simp), h.wl.broken]
end
end Go.Proofs.YtnlepoplncjliaaGreatDoor

namespace Go.Proofs.YtnlepoplncjliaaGreatDoor
open Go.RowKit

theorem retGo_arm {nm : List Nat} {lim : Int} (hnl : nm.length ≤ 8) : ∀ (segs : List (Nat × List (List Nat))) (D : Dk) (m : Nat), LogIs D nm segs →
    (∃ D' m', retGo nm lim (segs.map (·.1)) (D.arm m) = (D'.arm m', 0) ∧ m' ≤ m ∧ retGo nm lim (segs.map (·.1)) D = (D', 0)) ∨
    (∃ E u t D2, retGo nm lim (segs.map (·.1)) (D.arm m) = (E, 6) ∧ segs = u ++ t ∧ (∀ s ∈ u, (s.1 : Int) < lim) ∧ LogIs D2 nm t ∧ D2.room = D.room ∧ D2.used ≤ D.used ∧ D2.files.length ≤ D.files.length ∧ (E = D2.dead ∨ ∃ s r, t = s :: r ∧ (s.1 : Int) < lim ∧ E = (D2.delete (fileN nm s.1 ackK)).dead))
  | [], D, m, h => .inl ⟨D, m, rfl, Nat.le_refl _, rfl⟩
  | s :: r, D, m, h => by
    obtain ⟨a1, a2, a3, a4, a5, a6⟩ := h.behead hnl
    have hs6 := h.le s List.mem_cons_self
    obtain ⟨-, c1, -⟩ := del_calm h.calm h.nd (name_ok (k := ackK) hnl hs6 rfl)
    by_cases hl : lim ≤ (s.1 : Int)
    · exact .inl ⟨D, m, by rw [List.map_cons, retGo, if_pos hl], Nat.le_refl _, by rw [List.map_cons, retGo, if_pos hl]⟩
    have hD : retGo nm lim ((s :: r).map (·.1)) D = retGo nm lim (r.map (·.1)) ((D.delete (fileN nm s.1 ackK)).delete (fileN nm s.1 logK)) := by rw [List.map_cons, retGo, if_neg hl, a1, if_neg (by simp), a2, if_neg (by simp)]
    match m with
    | 0 =>
      right
      exact ⟨D.dead, [], s :: r, D, by rw [List.map_cons, retGo, if_neg hl, dropE_dead h.calm, if_pos (by decide), delete_dead h.calm], rfl, fun x hx => (by cases hx), h, rfl, Int.le_refl _, Nat.le_refl _, .inl rfl⟩
    | 1 =>
      right
      exact ⟨_, [], s :: r, D, by rw [List.map_cons, retGo, if_neg hl, dropE_arm h.calm, a1, if_neg (by simp), delete_arm h.calm, dropE_dead c1, if_pos (by decide), delete_dead c1], rfl, fun x hx => (by cases hx), h, rfl, Int.le_refl _, Nat.le_refl _, .inr ⟨s, r, rfl, by omega, rfl⟩⟩
    | m + 2 =>
      have hA : retGo nm lim ((s :: r).map (·.1)) (D.arm (m + 2)) = retGo nm lim (r.map (·.1)) (((D.delete (fileN nm s.1 ackK)).delete (fileN nm s.1 logK)).arm m) := by rw [List.map_cons, retGo, if_neg hl, dropE_arm h.calm, a1, if_neg (by simp), delete_arm h.calm, dropE_arm c1, a2, if_neg (by simp), delete_arm c1]
      rw [hA, hD]
      rcases retGo_arm hnl r _ m a3 with ⟨D', m', b1, b2, b3⟩ | ⟨E, u, t, D2, b1, b2, b3, b4, b5, b6, b7, b8⟩
      · exact .inl ⟨D', m', b1, by omega, b3⟩
      · right
        refine ⟨E, s :: u, t, D2, b1, by rw [b2]; rfl, fun x hx => ?_, b4, by rw [b5, a4], by omega, by omega, b8⟩
        rcases List.mem_cons.1 hx with e | e
        · rw [e]; omega
        · exact b3 x e
/-- A log whose first segment has no marks. -/
theorem gen_head {D F : Dk} {nm : List Nat} {s : Nat × List (List Nat)} {r : List (Nat × List (List Nat))} (h : LogIs D nm (s :: r)) (hc : F.calm) (hn : (F.files.map (·.1)).Nodup) (hg : ∀ x, F.get x = if x = fileN nm s.1 ackK then none else D.get x) : GenIs F nm ((s.1, (framesN s.2, [])) :: r.map norm) := by
  have hs6 := h.le s List.mem_cons_self
  have hinc := h.inc
  rw [List.map_cons, List.pairwise_cons] at hinc
  have hne : ∀ t ∈ r, ∀ k k' : List Nat, fileN nm t.1 k ≠ fileN nm s.1 k' := fun t ht k k' e => by
    have h1 := (fileN_inj (h.le t (List.mem_cons_of_mem _ ht)) hs6 e).1
    have h2 := hinc.1 t.1 (List.mem_map.2 ⟨t, ht, rfl⟩)
    omega
  have hla : fileN nm s.1 logK ≠ fileN nm s.1 ackK := fun e => by
    have := (fileN_inj hs6 hs6 e).2
    revert this
    decide
  have hm : ∀ g ∈ (s.1, (framesN s.2, [])) :: r.map norm, g = (s.1, (framesN s.2, [])) ∨ ∃ t ∈ r, g = norm t := fun g hgm => by
    rcases List.mem_cons.1 hgm with e | e
    · exact .inl e
    · obtain ⟨t, ht, e2⟩ := List.mem_map.1 e
      exact .inr ⟨t, ht, e2.symm⟩
  have hget : ∀ t ∈ r, ∀ k, F.get (fileN nm t.1 k) = D.get (fileN nm t.1 k) := fun t ht k => by rw [hg, if_neg (hne t ht _ _)]
  refine ⟨hc, hn, ?_, fun g hgm => ?_, fun g hgm => ?_, fun g hgm => ?_, fun g hgm => ?_, fun x hx => ?_, fun x f hf => ?_⟩
  · have := h.inc
    rw [List.map_cons, List.map_map]
    exact this
  · rcases hm g hgm with rfl | ⟨t, ht, rfl⟩
    · exact hs6
    · exact h.le t (List.mem_cons_of_mem _ ht)
  · rcases hm g hgm with rfl | ⟨t, ht, rfl⟩
    · unfold Dk.datN
      show ((F.get (fileN nm s.1 logK)).map _).getD _ = _
      rw [hg, if_neg hla, h.log s List.mem_cons_self]
      rfl
    · unfold Dk.datN
      show ((F.get (fileN nm t.1 logK)).map _).getD _ = _
      rw [hget t ht, h.log t (List.mem_cons_of_mem _ ht)]
      rfl
  · rcases hm g hgm with rfl | ⟨t, ht, rfl⟩
    · unfold Dk.datN
      show ((F.get (fileN nm s.1 ackK)).map _).getD _ = _
      rw [hg, if_pos rfl]
      rfl
    · unfold Dk.datN
      show ((F.get (fileN nm t.1 ackK)).map _).getD _ = _
      rw [hget t ht, h.ack t (List.mem_cons_of_mem _ ht)]
      rfl
  · rcases hm g hgm with rfl | ⟨t, ht, rfl⟩
    · left
      show (F.get (fileN nm s.1 logK)).isSome = true
      rw [hg, if_neg hla, h.log s List.mem_cons_self]
      rfl
    · left
      show (F.get (fileN nm t.1 logK)).isSome = true
      rw [hget t ht, h.log t (List.mem_cons_of_mem _ ht)]
      rfl
  · rw [hg] at hx
    by_cases e1 : x = fileN nm s.1 ackK
    · rw [if_pos e1] at hx; cases hx
    rw [if_neg e1] at hx
    obtain ⟨t, ht, e⟩ := h.own x hx
    rcases List.mem_cons.1 ht with e2 | e2
    · refine ⟨(s.1, (framesN s.2, [])), List.mem_cons_self, ?_⟩
      rw [e2] at e
      exact e
    · exact ⟨norm t, List.mem_cons_of_mem _ (List.mem_map.2 ⟨t, e2, rfl⟩), e⟩
  · rw [hg] at hf
    by_cases e1 : x = fileN nm s.1 ackK
    · rw [if_pos e1] at hf; cases hf
    rw [if_neg e1] at hf
    exact h.full_ hf
section
variable {D : Dk} {W : Wl} {segs : List (Nat × List (List Nat))} {k : Nat}
theorem PlIs.retire_arm (h : PlIs D W segs k) (hk : k ≤ 30) (N : Int) (m : Nat) :
    (∃ D' segs' m', retW W (D.arm m) [119] N = (W, D'.arm m', 0) ∧ m' ≤ m ∧ PlIs D' W segs' (k + 1) ∧ recsOf segs' = (recsOf segs).filter fun r => decide (min N (W.num : Int) ≤ (r.1 : Int))) ∨
    (∃ E u t, retW W (D.arm m) [119] N = ({ W with broken := true }, E, 6) ∧ E.off = true ∧ (∀ p ∈ E.files, OwnNm [119] p.1) ∧ segs = u ++ t ∧ (∀ s ∈ u, (s.1 : Int) < min N (W.num : Int)) ∧ ∀ kf, Left (E.crashed kf) (recsOf t) []) := by
  have p1 := h.room
  have p2 := h.files
  have p3 := h.used
  have p4 := h.segs_few
  have hL := h.wl.log
  obtain ⟨D', segs', q1, q2, q3⟩ := h.retire N
  have hnums : numsL [119] ((D.arm m).files.map (·.1)) = segs.map (·.1) := hL.nums
  rcases retGo_arm (nm := [119]) (lim := min N (W.num : Int)) (by decide) segs D m hL with ⟨D3, m', b1, b2, b3⟩ | ⟨E, u, t, D2, b1, b2, b3, b4, b5, b6, b7, b8⟩
  · left
    have hD3 : D3 = D' := by
      unfold retW at q1
      rw [if_neg (by simp [h.wl.broken]), hL.nums, b3, if_neg (by simp)] at q1
      injection q1 with _ q1
      injection q1
    refine ⟨D', segs', m', ?_, b2, q2, q3⟩
    unfold retW
    rw [if_neg (by simp [h.wl.broken]), hnums, b1, if_neg (by simp), hD3]
  · right
    have hr : retW W (D.arm m) [119] N = ({ W with broken := true }, E, 6) := by
      unfold retW
      rw [if_neg (by simp [h.wl.broken]), hnums, b1, if_pos (by simp)]
    have htl : t.length ≤ 30 := by
      have := congrArg List.length b2
      rw [List.length_append] at this
      omega
    have hown2 : ∀ x, (D2.get x).isSome = true → OwnNm [119] x := fun x hx => by
      obtain ⟨s, hs, e⟩ := b4.own x hx
      rcases e with e | e
      · exact ⟨s.1, logB, b4.le s hs, .inl rfl, e⟩
      · exact ⟨s.1, ackB, b4.le s hs, .inr (.inl rfl), e⟩
    rcases b8 with e | ⟨s, r, e1, e2, e3⟩
    · refine ⟨E, u, t, hr, by rw [e]; rfl, fun p hp => ?_, b2, b3, fun kf => ?_⟩
      · rw [e] at hp
        exact hown2 p.1 (mem_names.1 (List.mem_map.2 ⟨p, hp, rfl⟩))
      · have hcg : ∀ x, (E.crashed kf).get x = D2.get x := fun x => by
          rw [e, dead_crashed]
          cases e9 : D2.get x with
          | none => rfl
          | some f =>
            show some (f.crash _ _) = some f
            rw [crash_full (b4.full_ e9)]
        rw [e] at hcg ⊢
        refine Left.of (gs := t.map norm) b4.nd (fun x f e9 => by rw [b4.full_ (x := x) (by rw [← dead_get]; exact e9)]; exact Nat.le_refl _) (by show D2.files.length ≤ _; omega) (by show D2.used ≤ _; omega) (by show D2.room = _; omega) (gen_all b4 (crashed_calm _ _) (by rw [crashed_names]; exact b4.nd) hcg) (known_norm b4.bounds) (.inl (recsG_norm b4.bounds)) (by rw [List.length_map]; omega) (nice_norm b4.bounds2)
    · subst e1
      have hs6 := b4.le s List.mem_cons_self
      obtain ⟨d1, d2, d3, d4, d5, d6, d7⟩ := del_calm b4.calm b4.nd (name_ok (nm := [119]) (k := ackK) (by decide) hs6 rfl)
      refine ⟨E, u, s :: r, hr, by rw [e3]; rfl, fun p hp => ?_, b2, b3, fun kf => ?_⟩
      · rw [e3] at hp
        have hx := mem_names.1 (List.mem_map.2 ⟨p, (show p ∈ (D2.delete (fileN [119] s.1 ackK)).files from hp), rfl⟩)
        rw [d7] at hx
        split at hx
        · cases hx
        · exact hown2 p.1 hx
      · have hfull : ∀ x f, (D2.delete (fileN [119] s.1 ackK)).get x = some f → f.safe = f.data.length := fun x f e9 => by
          rw [d7] at e9
          split at e9
          · cases e9
          · exact b4.full_ e9
        have hcg : ∀ x, (E.crashed kf).get x = if x = fileN [119] s.1 ackK then none else D2.get x := fun x => by
          rw [e3, dead_crashed, ← d7]
          cases e9 : (D2.delete (fileN [119] s.1 ackK)).get x with
          | none => rfl
          | some f =>
            show some (f.crash _ _) = some f
            rw [crash_full (hfull x f e9)]
        rw [e3] at hcg ⊢
        have hb := b4.bounds
        obtain ⟨hb1, hb2⟩ := hb s List.mem_cons_self
        have hbr : ∀ x ∈ r, (∀ y ∈ x.2, y.length ≤ 131072) ∧ x.2.length ≤ 131072 := fun x hx => hb x (List.mem_cons_of_mem _ hx)
        have hkl := known_less (l := s.2) (K := []) hb1 (by rw [countN_nil]; exact Nat.zero_le _) (by rw [countN_nil])
        have hlen : (s :: r).length = r.length + 1 := rfl
        refine Left.of (gs := (s.1, (framesN s.2, [])) :: r.map norm) d3 (fun x f e9 => by rw [hfull x f e9]; exact Nat.le_refl _) (by show (D2.delete _).files.length ≤ _; omega) (by show (D2.delete _).used ≤ _; omega) (by show (D2.delete _).room = _; omega) (gen_head b4 (crashed_calm _ _) (by rw [crashed_names]; exact d3) hcg) (fun g hgm => ?_) (.inl ?_) (by rw [List.length_cons, List.length_map]; omega) (fun g hgm => by
          have hb2 := b4.bounds2
          rcases List.mem_cons.1 hgm with e9 | e9
          · rw [e9]
            obtain ⟨c1, c2⟩ := hb2 s List.mem_cons_self
            refine nice_less c1 c2 (by rw [countN_nil]; exact Nat.zero_le _) (by rw [countN_nil]) (fun e => ?_)
            rw [countN_nil] at e
            rw [← show 0 = s.2.length from e]
            rfl
          · exact nice_norm (fun x hx => hb2 x (List.mem_cons_of_mem _ hx)) g e9)
        · rcases List.mem_cons.1 hgm with e9 | e9
          · rw [e9]
            refine ⟨hkl.1, ?_⟩
            show (knownN (framesN s.2, [])).1.length ≤ _
            rw [hkl.2]
            exact hb2
          · exact known_norm hbr g e9
        · have e9 : recsG ((s.1, (framesN s.2, [])) :: r.map norm) = ((knownN (framesN s.2, [])).1.map fun x => (s.1, x)) ++ recsG (r.map norm) := by simp [recsG]
          have e10 : recsOf (s :: r) = (s.2.map fun x => (s.1, x)) ++ recsOf r := by simp [recsOf]
          rw [e9, e10, hkl.2, recsG_norm hbr]
end
end Go.Proofs.YtnlepoplncjliaaGreatDoor

namespace Go.Proofs.YtnlepoplncjliaaGreatDoor
open Go.RowKit

/-- Bytes from a place on, those of one sector turned, as far as the walk has come. -/
def turnU (s : List Nat) (a : Nat) (ks : Int) (i : Nat) : List Nat := s.mapIdx fun j c => if a ≤ j ∧ j < i ∧ ((j / 64 : Nat) : Int) = ks then c ^^^ 165 else c
theorem turnU_len (s : List Nat) (a : Nat) (ks : Int) (i : Nat) : (turnU s a ks i).length = s.length := by unfold turnU; simp
theorem turnU_zero (s : List Nat) (a : Nat) (ks : Int) : turnU s a ks a = s := by
  unfold turnU
  rw [mapIdx_eq (g := id) (fun j hj c => by rw [if_neg (by omega)]; rfl), List.map_id]
theorem turnU_all (s : List Nat) (a : Nat) (ks : Int) {i : Nat} (hi : s.length ≤ i) : turnU s a ks i = turnK s a ks := by
  unfold turnU turnK
  refine List.ext_getElem (by simp) fun j h1 h2 => ?_
  rw [List.getElem_mapIdx, List.getElem_mapIdx]
  have hj : j < s.length := by simpa using h1
  by_cases e : a ≤ j ∧ ((j / 64 : Nat) : Int) = ks
  · rw [if_pos e, if_pos ⟨e.1, by omega, e.2⟩]
  · rw [if_neg e, if_neg (fun h => e ⟨h.1, h.2.2⟩)]
theorem turnU_byt {s : List Nat} (h : Byt s) (a : Nat) (ks : Int) (i : Nat) : Byt (turnU s a ks i) := by
  intro d hd
  unfold turnU at hd
  obtain ⟨j, hj, rfl⟩ := List.getElem_of_mem hd
  rw [List.getElem_mapIdx]
  have h0 := h _ (List.getElem_mem (by simpa using hj : j < s.length))
  split
  · exact Nat.xor_lt_two_pow (n := 8) h0 (by decide)
  · exact h0
theorem turnU_same (s : List Nat) (a : Nat) (ks : Int) {i : Nat} (h : ¬ ((i / 64 : Nat) : Int) = ks) : turnU s a ks (i + 1) = turnU s a ks i := by
  unfold turnU
  refine List.ext_getElem (by simp) fun j h1 h2 => ?_
  rw [List.getElem_mapIdx, List.getElem_mapIdx]
  by_cases e : j = i
  · subst e
    rw [if_neg (fun h3 => h h3.2.2), if_neg (fun h3 => h h3.2.2)]
  · by_cases e2 : a ≤ j ∧ j < i ∧ ((j / 64 : Nat) : Int) = ks
    · rw [if_pos e2, if_pos ⟨e2.1, by omega, e2.2.2⟩]
    · rw [if_neg e2, if_neg (fun h3 => e2 ⟨h3.1, by omega, h3.2.2⟩)]
theorem turnU_get (s : List Nat) (a : Nat) (ks : Int) (i j : Nat) : (turnU s a ks i)[j]? = s[j]?.map fun c => if a ≤ j ∧ j < i ∧ ((j / 64 : Nat) : Int) = ks then c ^^^ 165 else c := by
  unfold turnU
  rw [List.getElem?_mapIdx]
theorem turnU_set (s : List Nat) (a : Nat) (ks : Int) {i b : Nat} (ha : a ≤ i) (h : ((i / 64 : Nat) : Int) = ks) (hb : (turnU s a ks i)[i]? = some b) : turnU s a ks (i + 1) = (turnU s a ks i).set i (b ^^^ 165) := by
  have hil := (List.getElem?_eq_some_iff.1 hb).1
  refine List.ext_getElem? fun j => ?_
  rw [turnU_get]
  by_cases e : j = i
  · subst e
    rw [List.getElem?_set_self hil]
    rw [turnU_get] at hb
    cases hs : s[j]? with
    | none => rw [hs] at hb; cases hb
    | some c =>
      rw [hs] at hb
      have hb' : some (if a ≤ j ∧ j < j ∧ ((j / 64 : Nat) : Int) = ks then c ^^^ 165 else c) = some b := hb
      rw [if_neg (by omega)] at hb'
      injection hb' with hb'
      show some (if a ≤ j ∧ j < j + 1 ∧ ((j / 64 : Nat) : Int) = ks then c ^^^ 165 else c) = some (b ^^^ 165)
      rw [if_pos ⟨ha, by omega, h⟩, hb']
  · rw [List.getElem?_set_ne (fun h3 => e h3.symm), turnU_get]
    congr 1
    funext c
    by_cases e2 : a ≤ j ∧ j < i ∧ ((j / 64 : Nat) : Int) = ks
    · rw [if_pos e2, if_pos ⟨e2.1, by omega, e2.2.2⟩]
    · rw [if_neg e2, if_neg (fun h3 => e2 ⟨h3.1, by omega, h3.2.2⟩)]
set_option maxHeartbeats 2000000 in
theorem fcrash_any (g0 : Nat) (f : Fil) (kb ks : Int) (w : World) (k0 : Blk w g0 91 f.cs) (hf : f.ok) (hkb : I64 kb) (hks : I64 ks) :
    Calls Tryz.prog 53 #[.pointer (some ⟨g0, 0, none⟩), .agg #[.int .i64 kb, .int .i64 ks]] w fun e w' => ∃ w1 w2 c1, e = .returned (.tuple #[]) ∧ Grow w w1 ∧ Blk w1 g0 91 f.cs ∧ Put w1 w2 g0 91 c1 ∧ Put w2 w' g0 91 (f.crash kb ks).cs := by
  have bel := Below.refl w.heap.size w
  obtain ⟨hfb, hfs, hfl⟩ := hf
  have hb1 := hkb.1
  have hb2 := hkb.2
  obtain ⟨n, hn⟩ : ∃ n, n = f.kept kb := ⟨_, rfl⟩
  have hnl : n ≤ f.data.length := by rw [hn]; exact kept_le hfs kb
  have hns : f.safe ≤ n := by rw [hn]; unfold Fil.kept; omega
  have hnz : (f.safe : Int) + min (max kb 0) ((f.data.length : Int) - (f.safe : Int)) = (n : Int) := by rw [hn]; unfold Fil.kept; omega
  refine Calls.start 62 Tryz.func53 rfl rfl rfl ?_
  refine Cd.seq ?_
  refine Cd.region ?_
  refine Seq.box rfl rfl rfl rfl rfl ?_
  intro g3 w1 n3
  have e3 := Nat.le_trans bel.size n3.ge
  have l3 := Nat.lt_of_lt_of_le k0.lt n3.ge
  replace bel := bel.step n3.below
  replace k0 := k0.step n3.below
  have k3 := n3.blk
  refine Seq.nil ?_
  refine Post.weak (F' := [(0, _), (1, _), (3, _)]) ⟨rfl, rfl, rfl, trivial⟩ ?_
  refine Post.then_ ?_
  refine Cd.seq ?_
  refine Cd.weak (F' := [(0, _), (1, _), (3, _)]) ⟨rfl, rfl, rfl, trivial⟩ ?_
  refine Cd.draw 20 (by kernel_rfl) [] (.inl rfl) rfl Grow Grow.refl (fun _ _ _ => Grow.trans) ?_
  intro w2 hw2 zw2
  replace bel := bel.step hw2
  replace k0 := k0.step hw2
  replace k3 := k3.step hw2
  have zbel := bel.size
  have zlt := k3.lt
  refine Dr.val Grow.refl rfl (fun w hG => Runs.move rfl rfl) rfl ?_
  refine Dr.val Grow.refl rfl (fun w hG => Runs.nilCheck rfl rfl) rfl ?_
  refine Dr.val Grow.refl rfl (fun w hG => Runs.fieldB 1 rfl rfl Tryz.underlying91 rfl (by kernel_rfl)) rfl ?_
  refine Dr.val Grow.refl rfl (fun w hG => Runs.loadB rfl rfl Tryz.underlying3 rfl (k0.step hG) rfl) rfl ?_
  refine Dr.val Grow.refl rfl (fun w hG => Runs.fieldB 0 rfl rfl Tryz.underlying106 rfl (by kernel_rfl)) rfl ?_
  refine Dr.val Grow.refl rfl (fun w hG => Runs.loadB rfl rfl Tryz.underlying3 rfl (k3.step hG) rfl) rfl ?_
  refine Dr.val Grow.refl rfl (fun w hG => Runs.max2 rfl rfl rfl) rfl ?_
  refine Dr.val Grow.refl rfl (fun w hG => Runs.move rfl rfl) rfl ?_
  refine Dr.val Grow.refl rfl (fun w hG => Runs.nilCheck rfl rfl) rfl ?_
  refine Dr.val Grow.refl rfl (fun w hG => Runs.fieldB 0 rfl rfl Tryz.underlying91 rfl (by kernel_rfl)) rfl ?_
  refine Dr.val Grow.refl rfl (fun w hG => Runs.loadB rfl rfl Tryz.underlying9 rfl (k0.step hG) rfl) rfl ?_
  refine Dr.val Grow.refl rfl (fun w hG => Runs.lenL rfl rfl Tryz.underlying9) rfl ?_
  refine Dr.val Grow.refl rfl (fun w hG => Runs.move rfl rfl) rfl ?_
  refine Dr.val Grow.refl rfl (fun w hG => Runs.nilCheck rfl rfl) rfl ?_
  refine Dr.val Grow.refl rfl (fun w hG => Runs.fieldB 1 rfl rfl Tryz.underlying91 rfl (by kernel_rfl)) rfl ?_
  refine Dr.val Grow.refl rfl (fun w hG => Runs.loadB rfl rfl Tryz.underlying3 rfl (k0.step hG) rfl) rfl ?_
  refine Dr.val Grow.refl rfl (fun w hG => Runs.subI rfl rfl rfl (by omega) (by omega)) rfl ?_
  refine Dr.val Grow.refl rfl (fun w hG => Runs.min2 rfl rfl rfl) rfl ?_
  refine Dr.val Grow.refl rfl (fun w hG => Runs.addI rfl rfl rfl (by omega) (by omega)) rfl ?_
  refine Dr.val Grow.refl rfl (fun w hG => Runs.assign rfl rfl) rfl ?_
  refine Dr.nil ?_
  refine FinX.done (F' := [(0, _), (1, _), (3, _), (4, _)]) rfl ⟨rfl, rfl, rfl, rfl, trivial⟩ ?_
  intro w3 hw3 fw3
  replace bel := bel.step hw3
  replace k0 := k0.step hw3
  replace k3 := k3.step hw3
  refine Seq.nil ?_
  refine Post.weak (F' := [(0, _), (1, _), (3, _), (4, _)]) ⟨rfl, rfl, rfl, rfl, trivial⟩ ?_
  refine Post.then_ ?_
  refine Cd.seq ?_
  refine Cd.region ?_
  refine Seq.val (Runs.move rfl rfl) rfl rfl rfl ?_
  refine Seq.val (Runs.nilCheck rfl rfl) rfl rfl rfl ?_
  refine Seq.val (Runs.fieldB 0 rfl rfl Tryz.underlying91 rfl (by kernel_rfl)) rfl rfl rfl ?_
  refine Seq.val (Runs.loadB rfl rfl Tryz.underlying9 rfl k0 rfl) rfl rfl rfl ?_
  refine Seq.val (Runs.move rfl rfl) rfl rfl rfl ?_
  refine Seq.val (Runs.sliceTo rfl rfl rfl Tryz.underlying9 (j := n) hnz (by omega)) rfl rfl rfl ?_
  have hRb : Byt (f.data.take n) := Byt.take (show Byt f.data from hfb) n
  have hRl : (f.data.take n).length = n := by rw [List.length_take]; omega
  obtain ⟨R, hR⟩ : ∃ R, R = f.data.take n := ⟨_, rfl⟩
  rw [← hR] at hRb hRl
  rw [← hR]
  have hB0 := bel.size
  have hl0 := k0.lt
  have hl3 := k3.lt
  refine Seq.convSB2 rfl rfl Tryz.underlying9 Tryz.underlying60 Tryz.underlying5 hRb rfl rfl rfl ?_
  intro g5 c5 w5 hg5 hb5 ob
  replace k3 := k3.step hb5
  replace k0 := k0.step hb5
  replace bel := bel.trans (hb5.mono hB0)
  rw [hRl]
  have ob0 : OwnB w5 g5 (turnU R f.safe ks f.safe) := by rw [turnU_zero]; exact ob
  clear ob
  refine Seq.val (Runs.assign rfl rfl) rfl rfl rfl ?_
  refine Seq.nil ?_
  refine Post.weak (F' := [(0, _), (1, _), (3, _), (4, _), (5, _)]) ⟨rfl, rfl, rfl, rfl, rfl, trivial⟩ ?_
  refine Post.then_ ?_
  refine Cd.seq ?_
  refine Cd.seq ?_
  refine Cd.region ?_
  refine Seq.val (Runs.move rfl rfl) rfl rfl rfl ?_
  refine Seq.val (Runs.nilCheck rfl rfl) rfl rfl rfl ?_
  refine Seq.val (Runs.fieldB 1 rfl rfl Tryz.underlying91 rfl (by kernel_rfl)) rfl rfl rfl ?_
  refine Seq.val (Runs.loadB rfl rfl Tryz.underlying3 rfl k0 rfl) rfl rfl rfl ?_
  refine Seq.val (Runs.assign rfl rfl) rfl rfl rfl ?_
  refine Seq.nil ?_
  refine Post.weak (F' := [(0, _), (1, _), (3, _), (4, _), (5, _), (6, _)]) ⟨rfl, rfl, rfl, rfl, rfl, rfl, trivial⟩ ?_
  refine Post.then_ ?_
  refine Cd.block ?_
  have K0 := k0
  have K3 := k3
  refine Cd.loop (σ := Nat) (fun i => [(0, .pointer (some ⟨g0, 0, none⟩)), (3, .pointer (some ⟨g3, 0, none⟩)), (4, .int .i64 (n : Int)), (5, .slice (some ⟨g5, 0, none⟩) n c5), (6, .int .i64 (i : Int))]) (fun i wr => f.safe ≤ i ∧ i ≤ n ∧ Below g5 w5 wr ∧ OwnB wr g5 (turnU R f.safe ks i)) (fun i => n - i) f.safe ⟨Nat.le_refl _, hns, Below.refl _ _, ob0⟩ ⟨rfl, rfl, congrArg (fun x => some (Value.int .i64 x)) hnz, rfl, rfl, trivial⟩ ?_
  rintro i wr ⟨hi0, hin, blw, ob⟩
  clear ob0 k0 k3
  have k0 := K0.below blw (by omega)
  have k3 := K3.below blw (by omega)
  refine Cd.seq ?_
  refine Cd.seq ?_
  refine Cd.region ?_
  refine Seq.val (Runs.move rfl rfl) rfl rfl rfl ?_
  refine Seq.val (Runs.move rfl rfl) rfl rfl rfl ?_
  refine Seq.val (Runs.lss rfl rfl rfl) rfl rfl rfl ?_
  refine Seq.nil ?_
  refine Post.weak (F' := [(0, _), (3, _), (4, _), (5, _), (6, _), (39, _)]) ⟨rfl, rfl, rfl, rfl, rfl, rfl, trivial⟩ ?_
  refine Post.then_ ?_
  refine Cd.condD rfl (fun hc => ?_) (fun hc => ?_)
  · skip
    refine Cd.skip ?_
    refine Post.then_ ?_
    refine Cd.seq ?_
    refine Cd.block ?_
    refine Cd.seq ?_
    refine Cd.region ?_
    refine Seq.val (Runs.move rfl rfl) rfl rfl rfl ?_
    refine Seq.val (Runs.quoI rfl rfl rfl (by omega) (by omega) (by omega)) rfl rfl rfl ?_
    refine Seq.val (Runs.fieldB 1 rfl rfl Tryz.underlying106 rfl (by kernel_rfl)) rfl rfl rfl ?_
    refine Seq.val (Runs.loadB rfl rfl Tryz.underlying3 rfl k3 rfl) rfl rfl rfl ?_
    refine Seq.val (Runs.eqlI rfl rfl rfl) rfl rfl rfl ?_
    refine Seq.nil ?_
    refine Post.weak (F' := [(0, _), (3, _), (4, _), (5, _), (6, _), (39, _), (46, _)]) ⟨rfl, rfl, rfl, rfl, rfl, rfl, rfl, trivial⟩ ?_
    refine Post.then_ ?_
    have hul := turnU_len R f.safe ks i
    have hub := turnU_byt hRb f.safe ks i
    obtain ⟨b, hb⟩ : ∃ b, (turnU R f.safe ks i)[i]? = some b := ⟨_, List.getElem?_eq_getElem (by omega)⟩
    have hb256 := hub b (List.mem_of_getElem? hb)
    refine Cd.cond rfl (fun h => ?_) (fun h => ?_)
    · have h : ((i / 64 : Nat) : Int) = ks := by
        have h' : (i : Int) / 64 = ks := by simpa using h
        omega
      have hset := turnU_set R f.safe ks hi0 h hb
      refine Cd.region ?_
      refine Seq.val (Runs.move rfl rfl) rfl rfl rfl ?_
      refine Seq.val (Runs.move rfl rfl) rfl rfl rfl ?_
      refine Seq.val (Runs.indexB rfl rfl rfl Tryz.underlying60 (by kernel_rfl) (j := i) rfl (by omega)) rfl rfl rfl ?_
      refine Seq.val (Runs.load1 rfl rfl Tryz.underlying5 rfl (ob.cell hb)) rfl rfl rfl ?_
      refine Seq.val (Runs.xor8 (b := 165) rfl rfl rfl hb256 (by decide)) rfl rfl rfl ?_
      refine Seq.val (Runs.indexB rfl rfl rfl Tryz.underlying60 (by kernel_rfl) (j := i) rfl (by omega)) rfl rfl rfl ?_
      refine Seq.storeB rfl rfl rfl (by kernel_rfl) ob (by omega) rfl rfl ?_
      intro wb ob2 hbw
      rw [← hset] at ob2
      refine Seq.nil ?_
      refine Post.weak (F' := [(0, _), (3, _), (4, _), (5, _), (6, _), (39, _), (46, _)]) ⟨rfl, rfl, rfl, rfl, rfl, rfl, rfl, trivial⟩ ?_
      refine Post.block_normal ?_
      refine Post.then_ ?_
      refine Cd.region ?_
      refine Seq.val (Runs.move rfl rfl) rfl rfl rfl ?_
      refine Seq.val (Runs.addI rfl rfl rfl (by omega) (by omega)) rfl rfl rfl ?_
      refine Seq.val (Runs.assign rfl rfl) rfl rfl rfl ?_
      refine Seq.nil ?_
      refine Post.weak (F' := [(0, _), (3, _), (4, _), (5, _), (6, _), (39, _), (46, _)]) ⟨rfl, rfl, rfl, rfl, rfl, rfl, rfl, trivial⟩ ?_
      exact Post.round (i + 1) ⟨rfl, rfl, rfl, rfl, int_at (by omega), trivial⟩ ⟨by omega, by omega, blw.trans hbw, ob2⟩ (by omega)
    · have h : ¬ ((i / 64 : Nat) : Int) = ks := by
        have h' : ¬ (i : Int) / 64 = ks := by simpa using h
        omega
      rw [← turnU_same R f.safe ks h] at ob
      refine Cd.skip ?_
      refine Post.block_normal ?_
      refine Post.then_ ?_
      refine Cd.region ?_
      refine Seq.val (Runs.move rfl rfl) rfl rfl rfl ?_
      refine Seq.val (Runs.addI rfl rfl rfl (by omega) (by omega)) rfl rfl rfl ?_
      refine Seq.val (Runs.assign rfl rfl) rfl rfl rfl ?_
      refine Seq.nil ?_
      refine Post.weak (F' := [(0, _), (3, _), (4, _), (5, _), (6, _), (39, _), (46, _)]) ⟨rfl, rfl, rfl, rfl, rfl, rfl, rfl, trivial⟩ ?_
      exact Post.round (i + 1) ⟨rfl, rfl, rfl, rfl, int_at (by omega), trivial⟩ ⟨by omega, by omega, blw, ob⟩ (by omega)
  obtain rfl : i = n := by omega
  rw [turnU_all R f.safe ks (by omega)] at ob
  have hrd := ob.reads
  rw [turnK_len, hRl] at hrd
  have htb : Byt (turnK R f.safe ks) := by
    have := turnU_byt hRb f.safe ks i
    rwa [turnU_all R f.safe ks (by omega)] at this
  have hgr := bel.trans (blw.mono (Nat.le_trans hB0 hg5))
  clear K3 k3
  have hcr : f.crash kb ks = ⟨turnK R f.safe ks, i⟩ := by unfold Fil.crash; rw [← hn, ← hR]
  rw [hcr]
  have K0f := k0
  refine Cd.exit ?_
  refine Post.then_exit ?_
  refine Post.round_exit ?_
  refine Post.block_exit ?_
  refine Post.then_ ?_
  refine Cd.region ?_
  refine Seq.val (Runs.move rfl rfl) rfl rfl rfl ?_
  refine Seq.val (Runs.move rfl rfl) rfl rfl rfl ?_
  refine Seq.val (Runs.move rfl rfl) rfl rfl rfl ?_
  refine Seq.val (Runs.convBS rfl rfl Tryz.underlying60 Tryz.underlying5 Tryz.underlying9 hrd htb) rfl rfl rfl ?_
  refine Seq.val (Runs.move rfl rfl) rfl rfl rfl ?_
  refine Seq.val (Runs.nilCheck rfl rfl) rfl rfl rfl ?_
  refine Seq.val (Runs.fieldB 0 rfl rfl Tryz.underlying91 rfl (by kernel_rfl)) rfl rfl rfl ?_
  refine Seq.store1 rfl rfl rfl (by kernel_rfl) rfl rfl k0 rfl rfl rfl ?_
  intro w4 pw4
  replace k0 := pw4.blk
  refine Seq.val (Runs.nilCheck rfl rfl) rfl rfl rfl ?_
  refine Seq.val (Runs.fieldB 1 rfl rfl Tryz.underlying91 rfl (by kernel_rfl)) rfl rfl rfl ?_
  refine Seq.store1 rfl rfl rfl (by kernel_rfl) rfl rfl k0 rfl rfl rfl ?_
  intro w5 pw5
  replace k0 := pw5.blk
  refine Seq.nil ?_
  refine Post.weak (F' := [(0, _), (3, _), (4, _), (5, _), (6, _), (39, _)]) ⟨rfl, rfl, rfl, rfl, rfl, rfl, trivial⟩ ?_
  refine Post.end0 rfl (.inr rfl) ?_
  exact ⟨_, _, _, rfl, hgr, K0f, pw4, pw5⟩
end Go.Proofs.YtnlepoplncjliaaGreatDoor

namespace Go.Proofs.YtnlepoplncjliaaGreatDoor
open Go.RowKit

/-- Names, of a disk whose other fields are under way. -/
theorem namesU_any (g0 m : Nat) (v0 v2 v3 v4 v5 v6 v7 : Value) (l : List (List Nat × Nat)) (w : World) (k0 : Blk w g0 77 #[v0, .map (some m), v2, v3, v4, v5, v6, v7]) (mp : Mp w m l) (hk : ∀ p ∈ l, p.1.length ≤ 24) (hmost : l.length ≤ 200) :
    Calls Tryz.prog 31 #[.pointer (some ⟨g0, 0, none⟩)] w fun e w' => ∃ v, e = .returned v ∧ Own w' w.heap.size 9 1 v l.length (Ts (sortN (l.map (·.1)))) ∧ Grow w w' := by
  have bel := Below.refl w.heap.size w
  obtain ⟨D0, hown, hperm, hsize⟩ := mp.owns (fun p hp => by
    have := hk p hp
    simp only [maxLen]
    omega) (by simp only [maxLen]; omega)
  have hmax : Maps.size D0 ≤ maxLen := by rw [hsize]; simp only [maxLen]; omega
  have hbytes : Maps.size D0 * 16 ≤ 140737488355328 := by rw [hsize]; omega
  have hbl := hown.lt
  have hseq : SeqGives Fence.wide 2 Tryz.prog 76 #[.pointer (some ⟨w.heap.size, 0, none⟩)] encStr (fun ss => ss.Perm (strKeys D0)) (Maps.size D0) (w.alloc (.cells #[.map (some m)] 75)) :=
    AnyZ.keys_gives (ρ := shKeys_ren) { shKeys with } Fence.wide _ trivial rfl (by omega) w.heap.size m l.length D0 _ (by simp) (by simp) (by
      obtain ⟨es, clock, hb, Ft, hs, hD⟩ := hown
      exact ⟨es, clock, (Below.heap_alloc _ _ m hbl).trans hb, Ft, hs, hD⟩)
  have hsrt : AnyZ.SortsIn Tryz.prog shSorted_ren Fence.wide 4 :=
    ⟨fun blk off cap ss W hH hblk hsz => callsIn_wide.2 (AnyM.slices_Sort_string shSortS blk off cap ss W hH hblk hsz), fun p cap W => callsIn_wide.2 (AnyM.slices_Sort_string_none shSortS p cap W)⟩
  have cK := callsIn_wide.1 (AnyZ.keys_in shKeys Fence.wide 5 trivial rfl (some m) w)
  have cS := callsIn_wide.1 (AnyZ.sorted_in shSorted Fence.wide 5 trivial trivial trivial trivial rfl (by omega) hsrt (enters_of Tryz.func75 (by kernel_rfl) rfl) 76 #[.pointer (some ⟨w.heap.size, 0, none⟩)] trivial (enters_of Tryz.func76 (by kernel_rfl) rfl) _ _ hmax hbytes _ hseq)
  refine Calls.start 11 Tryz.func31 rfl rfl rfl ?_
  refine Cd.seq ?_
  refine Cd.region ?_
  refine Seq.val (Runs.assign rfl rfl) rfl rfl rfl ?_
  refine Seq.nil ?_
  refine Post.weak (F' := [(0, _), (2, _)]) ⟨rfl, rfl, trivial⟩ ?_
  refine Post.then_ ?_
  refine Cd.seq ?_
  refine Cd.seq ?_
  refine Cd.region ?_
  refine Seq.val (Runs.move rfl rfl) rfl rfl rfl ?_
  refine Seq.val (Runs.eqlP rfl rfl rfl Tryz.underlying26) rfl rfl rfl ?_
  refine Seq.nil ?_
  refine Post.weak (F' := [(0, _), (2, _), (4, _)]) ⟨rfl, rfl, rfl, trivial⟩ ?_
  refine Post.then_ ?_
  refine Cd.condF rfl rfl ?_
  refine Cd.skip ?_
  refine Post.then_ ?_
  refine Cd.seq ?_
  refine Cd.region ?_
  refine Seq.val (Runs.move rfl rfl) rfl rfl rfl ?_
  refine Seq.val (Runs.nilCheck rfl rfl) rfl rfl rfl ?_
  refine Seq.val (Runs.fieldB 1 rfl rfl Tryz.underlying77 rfl (by kernel_rfl)) rfl rfl rfl ?_
  refine Seq.val (Runs.loadB rfl rfl Tryz.underlying75 rfl k0 rfl) rfl rfl rfl ?_
  refine Seq.call (Enters.func rfl rfl rfl (run_enter Tryz.func52 (by kernel_rfl) rfl)) rfl rfl rfl (cK) ?_
  rintro e x ⟨rfl, rfl⟩
  refine ⟨_, rfl, ?_⟩
  refine Seq.call (Enters.func rfl rfl rfl (run_enter Tryz.func51 (by kernel_rfl) rfl)) rfl rfl rfl (cS) ?_
  rintro e w2 ⟨v, ss, rfl, hS, hrow, hnil, hb⟩
  refine ⟨_, rfl, ?_⟩
  have hb2 : Below w.heap.size w w2 := ((Below.refl _ w).alloc (Nat.le_refl _) _).trans (hb.mono (by simp))
  have hlen2 : ss.length = l.length := by
    have h1 := (hS.trans hperm).length_eq
    rw [List.length_map] at h1
    omega
  have hown2 : Own w2 w.heap.size 9 1 v l.length (Ts (sortN (l.map (·.1)))) := by
    have h1 : w2.ownsRow w.heap.size 9 1 v ss.length ((ss.mergeSort fun x y => decide (x ≤ y)).map encStr) := ownsRow_base_a hrow (by simp)
    rw [sorted_nm hS hperm, hlen2] at h1
    exact ⟨h1⟩
  clear bel
  have bel := hb2
  refine Seq.val (Runs.assign rfl rfl) rfl rfl rfl ?_
  refine Seq.nil ?_
  refine Post.weak (F' := [(0, _), (2, _), (4, _)]) ⟨rfl, rfl, rfl, trivial⟩ ?_
  refine Post.then_ ?_
  refine Cd.ret ?_
  refine Post.end1 rfl rfl (.inl rfl) ?_
  exact ⟨v, rfl, hown2, bel⟩
end Go.Proofs.YtnlepoplncjliaaGreatDoor

namespace Go.Proofs.YtnlepoplncjliaaGreatDoor
open Go.RowKit

/-- Acts, laid flat. -/
def acsV (l : List ActV) : List Value := l.flatMap ActV.cs
theorem acsV_at {l : List ActV} {i : Nat} {r : ActV} (h : l[i]? = some r) : ∀ (j : Nat) (v : Value), r.cs[j]? = some v → (acsV l)[i * 3 + j]? = some v := by
  intro j v hj
  have hj2 : j < 3 := (List.getElem?_eq_some_iff.1 hj).1
  induction l generalizing i with
  | nil => cases h
  | cons x l ih =>
    have e : acsV (x :: l) = x.cs ++ acsV l := by simp [acsV]
    have hx : x.cs.length = 3 := rfl
    cases i with
    | zero =>
      injection h with h
      subst h
      rw [e, Nat.zero_mul, Nat.zero_add, List.getElem?_append_left (by omega)]
      exact hj
    | succ i =>
      rw [e, List.getElem?_append_right (by omega)]
      have := ih (i := i) (by simpa using h)
      rw [show (i + 1) * 3 + j - x.cs.length = i * 3 + j by omega]
      exact this
theorem acsV_len (a : List ActV) : (acsV a).length = a.length * 3 := by
  induction a with
  | nil => rfl
  | cons x a ih => simp only [acsV, List.flatMap_cons, List.length_append, List.length_cons] at ih ⊢; rw [ih]; simp [ActV.cs]; omega
theorem Reads.act {w wr : World} {B n i : Nat} {A : Option Addr} {l : List ActV} {r : ActV} (h : Reads w B 3 A n (acsV l)) (hb : Below B w wr) (hf : l[i]? = some r) : ∃ ad, A = some ad ∧ ad.block < B ∧ i < n ∧ ∀ (j : Nat) (v : Value), r.cs[j]? = some v → wr.cell? ((ad.add (i * 3)).add j) = some v := by
  have hl := h.1
  rw [acsV_len] at hl
  have hi := (List.getElem?_eq_some_iff.1 hf).1
  have hin : i < n := by omega
  obtain ⟨ad, rfl, hbl, hc⟩ := h.2 (by omega)
  exact ⟨ad, rfl, hbl, hin, fun j v hj => by
    rw [addr_add2]
    exact (hb.cell (by rw [block_of_add]; exact hbl)).trans (hc _ _ (acsV_at hf j v hj))⟩
/-- Whether there is more than is asked of. -/
def greatL (l : List ActV) : Bool := decide (20 < l.length) || l.any fun a => decide (300 < a.data.length)
theorem great_any (A : Option Addr) (n c : Nat) (l : List ActV) (w : World) (hr : Reads w w.heap.size 3 A n (acsV l)) :
    Calls Tryz.prog 23 #[.slice A n c] w fun e w' => e = .returned (.bool (greatL l)) ∧ Grow w w' := by
  have bel := Below.refl w.heap.size w
  have hl : l.length = n := by have := hr.1; rw [acsV_len] at this; omega
  refine Calls.start 20 Tryz.func23 rfl rfl rfl ?_
  refine Cd.seq ?_
  refine Cd.region ?_
  refine Seq.val (Runs.assign rfl rfl) rfl rfl rfl ?_
  refine Seq.nil ?_
  refine Post.weak (F' := [(0, _), (2, _)]) ⟨rfl, rfl, trivial⟩ ?_
  refine Post.then_ ?_
  refine Cd.seq ?_
  refine Cd.seq ?_
  refine Cd.region ?_
  refine Seq.val (Runs.move rfl rfl) rfl rfl rfl ?_
  refine Seq.val (Runs.len rfl rfl Tryz.underlying50) rfl rfl rfl ?_
  refine Seq.val (Runs.gtr rfl rfl rfl) rfl rfl rfl ?_
  refine Seq.nil ?_
  refine Post.weak (F' := [(0, _), (2, _), (6, _)]) ⟨rfl, rfl, rfl, trivial⟩ ?_
  refine Post.then_ ?_
  refine Cd.cond rfl (fun h => ?_) (fun h => ?_)
  · have h : (20 : Int) < (n : Int) := by simpa using h
    have hS : greatL l = true := by unfold greatL; rw [decide_eq_true (by omega)]; rfl
    rw [hS]
    refine Cd.seq ?_
    refine Cd.region ?_
    refine Seq.val (Runs.assign rfl rfl) rfl rfl rfl ?_
    refine Seq.nil ?_
    refine Post.weak (F' := [(0, _), (2, _), (6, _)]) ⟨rfl, rfl, rfl, trivial⟩ ?_
    refine Post.then_ ?_
    refine Cd.ret ?_
    refine Post.then_ret ?_
    refine Post.end1 rfl rfl (.inl rfl) ?_
    exact ⟨rfl, bel⟩
  have h : ¬ ((20 : Int) < (n : Int)) := by simpa using h
  refine Cd.skip ?_
  refine Post.then_ ?_
  refine Cd.seq ?_
  refine Cd.seq ?_
  refine Cd.region ?_
  refine Seq.val (Runs.assign rfl rfl) rfl rfl rfl ?_
  refine Seq.nil ?_
  refine Post.weak (F' := [(0, _), (2, _), (3, _), (6, _)]) ⟨rfl, rfl, rfl, rfl, trivial⟩ ?_
  refine Post.then_ ?_
  refine Cd.block ?_
  refine Cd.loop (σ := Nat) (fun j => [(0, .slice A n c), (3, .int .i64 (j : Int))]) (fun j wr => j ≤ n ∧ (∀ s ∈ l.take j, s.data.length ≤ 300) ∧ Below w.heap.size w wr) (fun j => n - j) 0 ⟨Nat.zero_le _, by simp, bel⟩ ⟨rfl, rfl, trivial⟩ ?_
  clear bel
  rintro j wr ⟨hj, hall, bel⟩
  refine Cd.seq ?_
  refine Cd.seq ?_
  refine Cd.region ?_
  refine Seq.val (Runs.move rfl rfl) rfl rfl rfl ?_
  refine Seq.val (Runs.move rfl rfl) rfl rfl rfl ?_
  refine Seq.val (Runs.len rfl rfl Tryz.underlying50) rfl rfl rfl ?_
  refine Seq.val (Runs.lss rfl rfl rfl) rfl rfl rfl ?_
  refine Seq.nil ?_
  refine Post.weak (F' := [(0, _), (3, _), (10, _)]) ⟨rfl, rfl, rfl, trivial⟩ ?_
  refine Post.then_ ?_
  refine Cd.condD rfl (fun hc => ?_) (fun hc => ?_)
  · obtain ⟨s, hs⟩ : ∃ s, l[j]? = some s := ⟨_, List.getElem?_eq_getElem (by omega)⟩
    obtain ⟨ad, rfl, -, -, hcl⟩ := hr.act bel hs
    refine Cd.skip ?_
    refine Post.then_ ?_
    refine Cd.seq ?_
    refine Cd.block ?_
    refine Cd.seq ?_
    refine Cd.region ?_
    refine Seq.val (Runs.move rfl rfl) rfl rfl rfl ?_
    refine Seq.val (Runs.move rfl rfl) rfl rfl rfl ?_
    refine Seq.val (Runs.indexN rfl rfl rfl Tryz.underlying50 (s := 3) (by kernel_rfl) (j := j) rfl (by omega)) rfl rfl rfl ?_
    refine Seq.val (Runs.fieldA 2 rfl rfl Tryz.underlying57 rfl (by kernel_rfl)) rfl rfl rfl ?_
    refine Seq.val (Runs.load1 rfl rfl Tryz.underlying9 rfl (hcl 2 _ rfl)) rfl rfl rfl ?_
    refine Seq.val (Runs.lenL rfl rfl Tryz.underlying9) rfl rfl rfl ?_
    refine Seq.val (Runs.gtr rfl rfl rfl) rfl rfl rfl ?_
    refine Seq.nil ?_
    refine Post.weak (F' := [(0, _), (3, _), (10, _), (19, _)]) ⟨rfl, rfl, rfl, rfl, trivial⟩ ?_
    refine Post.then_ ?_
    refine Cd.cond rfl (fun h => ?_) (fun h => ?_)
    · have h : (300 : Int) < (s.data.length : Int) := by simpa using h
      have hS : greatL l = true := by
        unfold greatL
        rw [Bool.or_eq_true]
        right
        rw [List.any_eq_true]
        exact ⟨s, List.mem_of_getElem? hs, by simp; omega⟩
      rw [hS]
      refine Cd.seq ?_
      refine Cd.region ?_
      refine Seq.val (Runs.assign rfl rfl) rfl rfl rfl ?_
      refine Seq.nil ?_
      refine Post.weak (F' := [(0, _), (2, _), (3, _), (10, _), (19, _)]) ⟨rfl, rfl, rfl, rfl, rfl, trivial⟩ ?_
      refine Post.then_ ?_
      refine Cd.ret ?_
      refine Post.block_ret ?_
      refine Post.then_ret ?_
      refine Post.round_ret ?_
      refine Post.block_ret ?_
      refine Post.then_ret ?_
      refine Post.end1 rfl rfl (.inl rfl) ?_
      exact ⟨rfl, bel⟩
    have h : ¬ ((300 : Int) < (s.data.length : Int)) := by simpa using h
    refine Cd.skip ?_
    refine Post.block_normal ?_
    refine Post.then_ ?_
    refine Cd.region ?_
    refine Seq.val (Runs.move rfl rfl) rfl rfl rfl ?_
    refine Seq.val (Runs.addI rfl rfl rfl (by omega) (by omega)) rfl rfl rfl ?_
    refine Seq.val (Runs.assign rfl rfl) rfl rfl rfl ?_
    refine Seq.nil ?_
    refine Post.weak (F' := [(0, _), (3, _), (10, _), (19, _)]) ⟨rfl, rfl, rfl, rfl, trivial⟩ ?_
    refine Post.round (j + 1) ⟨rfl, int_at (by omega), trivial⟩ ⟨by omega, fun x hx => ?_, bel⟩ (by omega)
    rw [take_last hs] at hx
    rcases List.mem_append.1 hx with hx | hx
    · exact hall x hx
    · simp at hx; subst hx; omega
  · have hS : greatL l = false := by
      unfold greatL
      rw [decide_eq_false (by omega), Bool.false_or, List.any_eq_false]
      intro s hs
      rw [List.take_of_length_le (by omega)] at hall
      simpa using hall s hs
    rw [hS]
    refine Cd.exit ?_
    refine Post.then_exit ?_
    refine Post.round_exit ?_
    refine Post.block_exit ?_
    refine Post.then_ ?_
    refine Cd.seq ?_
    refine Cd.region ?_
    refine Seq.val (Runs.assign rfl rfl) rfl rfl rfl ?_
    refine Seq.nil ?_
    refine Post.weak (F' := [(0, _), (2, _), (3, _), (10, _)]) ⟨rfl, rfl, rfl, rfl, trivial⟩ ?_
    refine Post.then_ ?_
    refine Cd.ret ?_
    refine Post.end1 rfl rfl (.inl rfl) ?_
    exact ⟨rfl, bel⟩
theorem RunAt.mono {w : World} {B B' gr : Nat} {D : Dk} {W : Wl} {segs : List (Nat × List (List Nat))} (h : RunAt w B gr D W segs) (hB : B' ≤ B) : RunAt w B' gr D W segs := by
  obtain ⟨⟨gd, g6, v, h1, h2, h3, h4, h5⟩, h6⟩ := h
  exact ⟨⟨gd, g6, v, h1, h2.mono hB, h3, h4.mono hB, Nat.le_trans hB h5⟩, Nat.le_trans hB h6⟩
end Go.Proofs.YtnlepoplncjliaaGreatDoor

namespace Go.Proofs.YtnlepoplncjliaaGreatDoor
open Go.RowKit

/-- Keeps, laid flat. -/
def kpCs (q : Int × Int) : List Value := [.int .i64 q.1, .int .i64 q.2]
def kpsV (l : List (Int × Int)) : List Value := l.flatMap kpCs
theorem kpsV_at {l : List (Int × Int)} {i : Nat} {r : Int × Int} (h : l[i]? = some r) : ∀ (j : Nat) (v : Value), (kpCs r)[j]? = some v → (kpsV l)[i * 2 + j]? = some v := by
  intro j v hj
  have hj2 : j < 2 := (List.getElem?_eq_some_iff.1 hj).1
  induction l generalizing i with
  | nil => cases h
  | cons x l ih =>
    have e : kpsV (x :: l) = kpCs x ++ kpsV l := by simp [kpsV]
    have hx : (kpCs x).length = 2 := rfl
    cases i with
    | zero =>
      injection h with h
      subst h
      rw [e, Nat.zero_mul, Nat.zero_add, List.getElem?_append_left (by omega)]
      exact hj
    | succ i =>
      rw [e, List.getElem?_append_right (by omega)]
      have := ih (i := i) (by simpa using h)
      rw [show (i + 1) * 2 + j - (kpCs x).length = i * 2 + j by omega]
      exact this
theorem kpsV_len (a : List (Int × Int)) : (kpsV a).length = a.length * 2 := by
  induction a with
  | nil => rfl
  | cons x a ih => simp only [kpsV, List.flatMap_cons, List.length_append, List.length_cons] at ih ⊢; rw [ih]; simp [kpCs]; omega
theorem Reads.kp {w : World} {B n i : Nat} {A : Option Addr} {l : List (Int × Int)} {r : Int × Int} (h : Reads w B 2 A n (kpsV l)) (hf : l[i]? = some r) : ∃ ad, A = some ad ∧ ad.block < B ∧ i < n ∧ ∀ wr, Below B w wr → ∀ (j : Nat) (v : Value), (kpCs r)[j]? = some v → wr.cell? ((ad.add (i * 2)).add j) = some v := by
  have hl := h.1
  rw [kpsV_len] at hl
  have hi := (List.getElem?_eq_some_iff.1 hf).1
  have hin : i < n := by omega
  obtain ⟨ad, rfl, hbl, hc⟩ := h.2 (by omega)
  exact ⟨ad, rfl, hbl, hin, fun wr hb j v hj => by
    rw [addr_add2]
    exact (hb.cell (by rw [block_of_add]; exact hbl)).trans (hc _ _ (kpsV_at hf j v hj))⟩
theorem zero_disk_Keep : zeroIs Tryz.prog 106 = some (some (.agg #[.int .i64 0, .int .i64 0])) := by kernel_rfl
theorem run_build_keep (w : World) : (Instr.build 106 #[(1, .int .i64 (-1))]).run Tryz.prog w = .ok (.agg #[.int .i64 0, .int .i64 (-1)]) w := by
  have hu := Tryz.underlying106
  go_simp
/-- What is kept of whose file. -/
def keepOf (names : List (List Nat)) (kp : List (Int × Int)) (x : List Nat) : Int × Int := kp.getD (names.idxOf x) (0, -1)
/-- What is left of a file. -/
def szK (D : Dk) (kf : List Nat → Int × Int) (x : List Nat) : Nat := ((D.get x).map fun f => (f.crash (kf x).1 (kf x).2).data.length).getD 0
def usedK (D : Dk) (kf : List Nat → Int × Int) (xs : List (List Nat)) : Nat := (xs.map (szK D kf)).sum
theorem crash_ok {f : Fil} (h : f.ok) (kb ks : Int) : (f.crash kb ks).ok := by
  obtain ⟨h1, h2, h3⟩ := h
  have hk := kept_le h2 kb
  have hb : Byt (f.data.take (f.kept kb)) := Byt.take (show Byt f.data from h1) _
  have hl : (f.data.take (f.kept kb)).length = f.kept kb := by rw [List.length_take]; omega
  refine ⟨?_, ?_, ?_⟩
  · have := turnU_byt hb f.safe ks (f.kept kb)
    rw [turnU_all _ _ _ (by omega)] at this
    exact this
  · show f.kept kb ≤ (turnK _ _ _).length
    rw [turnK_len, hl]
    exact Nat.le_refl _
  · show (turnK _ _ _).length ≤ _
    rw [turnK_len, hl]
    omega
theorem usedK_files {D : Dk} {kf : List Nat → Int × Int} {Fi : Nat → Fil} : ∀ (l : List (List Nat × Nat)), (∀ p ∈ l, szK D kf p.1 = (Fi p.2).data.length) → usedK D kf (l.map (·.1)) = usedL (fsOf l Fi)
  | [], _ => rfl
  | p :: r, h => by
    have ih := usedK_files r (fun q hq => h q (List.mem_cons_of_mem _ hq))
    have e1 : usedK D kf ((p :: r).map (·.1)) = szK D kf p.1 + usedK D kf (r.map (·.1)) := by unfold usedK; simp
    have e2 : usedL (fsOf (p :: r) Fi) = (Fi p.2).data.length + usedL (fsOf r Fi) := rfl
    rw [e1, e2, ih, h p List.mem_cons_self]
theorem szK_le {D : Dk} (ok : D.ok) (kf : List Nat → Int × Int) (x : List Nat) : szK D kf x ≤ 1048576 := by
  unfold szK
  cases e : D.get x with
  | none => exact Nat.zero_le _
  | some f =>
    have h := (ok.fil _ (get_mem e)).1
    have h1 := crash_len h.2.1 (kf x).1 (kf x).2
    show (f.crash _ _).data.length ≤ _
    have := h.2.2
    simp only at h1 this
    omega
theorem usedK_le {D : Dk} (ok : D.ok) (kf : List Nat → Int × Int) : ∀ xs : List (List Nat), usedK D kf xs ≤ 1048576 * xs.length
  | [] => Nat.le_refl _
  | x :: xs => by
    have ih := usedK_le ok kf xs
    have h := szK_le ok kf x
    unfold usedK at ih ⊢
    rw [List.map_cons, List.sum_cons, List.length_cons]
    omega
theorem usedK_snoc (D : Dk) (kf : List Nat → Int × Int) (xs : List (List Nat)) (x : List Nat) : usedK D kf (xs ++ [x]) = usedK D kf xs + szK D kf x := by
  unfold usedK
  rw [List.map_append, List.sum_append]
  simp
set_option maxHeartbeats 4000000 in
theorem crash_d_any (B g0 : Nat) (D : Dk) (A : Option Addr) (nk ck : Nat) (kp : List (Int × Int)) (w : World) (h : DkAt w B g0 D) (hr : Reads w B 2 A nk (kpsV kp)) (hI : ∀ q ∈ kp, I64 q.1 ∧ I64 q.2) :
    Calls Tryz.prog 34 #[.pointer (some ⟨g0, 0, none⟩), .slice A nk ck] w fun e w' => ∃ kf, e = .returned (.tuple #[]) ∧ DkAt w' B g0 (D.crashed kf) ∧ Df B w w' := by
  have hBw := h.size
  obtain ⟨m, l, F, c1, c2, dk⟩ := h
  have hkn : kp.length = nk := by have := hr.1; rw [kpsV_len] at this; omega
  have k0 := dk.k
  have mp := dk.mp
  have fs := dk.fs
  have hm := dk.hm
  have e0 := dk.hB
  have ok0 := dk.ok
  have fl0 := dk.fl
  have df := Df.refl B w
  have hlen : l.length = D.files.length := by rw [fl0]; unfold fsOf; rw [List.length_map]
  have hmost := ok0.most
  have hk24 : ∀ p ∈ l, p.1.length ≤ 24 := fun p hp => by
    have := ok0.fil (p.1, F p.2) (by rw [fl0]; exact List.mem_map.2 ⟨p, hp, rfl⟩)
    exact this.2.2.2
  clear dk
  refine Calls.start 58 Tryz.func34 rfl rfl rfl ?_
  refine Cd.seq ?_
  refine Cd.seq ?_
  refine Cd.region ?_
  refine Seq.val (Runs.move rfl rfl) rfl rfl rfl ?_
  refine Seq.val (Runs.eqlP rfl rfl rfl Tryz.underlying26) rfl rfl rfl ?_
  refine Seq.nil ?_
  refine Post.weak (F' := [(0, _), (1, _), (9, _)]) ⟨rfl, rfl, rfl, trivial⟩ ?_
  refine Post.then_ ?_
  refine Cd.condF rfl rfl ?_
  refine Cd.skip ?_
  refine Post.then_ ?_
  refine Cd.seq ?_
  refine Cd.region ?_
  refine Seq.val (Runs.move rfl rfl) rfl rfl rfl ?_
  refine Seq.val (Runs.move rfl rfl) rfl rfl rfl ?_
  refine Seq.val (Runs.nilCheck rfl rfl) rfl rfl rfl ?_
  refine Seq.val (Runs.fieldB 5 rfl rfl Tryz.underlying77 rfl (by kernel_rfl)) rfl rfl rfl ?_
  refine Seq.store1 rfl rfl rfl (by kernel_rfl) rfl rfl k0 rfl rfl rfl ?_
  intro w1 pw1
  replace df := df.put k0 pw1 e0
  replace mp := mp.put k0 pw1 e0
  replace fs := fs.put k0 pw1 e0
  replace k0 := pw1.blk
  refine Seq.val (Runs.nilCheck rfl rfl) rfl rfl rfl ?_
  refine Seq.val (Runs.fieldB 6 rfl rfl Tryz.underlying77 rfl (by kernel_rfl)) rfl rfl rfl ?_
  refine Seq.store1 rfl rfl rfl (by kernel_rfl) rfl rfl k0 rfl rfl rfl ?_
  intro w2 pw2
  replace df := df.put k0 pw2 e0
  replace mp := mp.put k0 pw2 e0
  replace fs := fs.put k0 pw2 e0
  replace k0 := pw2.blk
  refine Seq.nil ?_
  refine Post.weak (F' := [(0, _), (1, _), (9, _)]) ⟨rfl, rfl, rfl, trivial⟩ ?_
  refine Post.then_ ?_
  refine Cd.seq ?_
  refine Cd.region ?_
  refine Seq.val (Runs.move rfl rfl) rfl rfl rfl ?_
  refine Seq.val (Runs.nilCheck rfl rfl) rfl rfl rfl ?_
  refine Seq.val (Runs.fieldB 2 rfl rfl Tryz.underlying77 rfl (by kernel_rfl)) rfl rfl rfl ?_
  refine Seq.store1 rfl rfl rfl (by kernel_rfl) rfl rfl k0 rfl rfl rfl ?_
  intro w3 pw3
  replace df := df.put k0 pw3 e0
  replace mp := mp.put k0 pw3 e0
  replace fs := fs.put k0 pw3 e0
  replace k0 := pw3.blk
  refine Seq.nil ?_
  refine Post.weak (F' := [(0, _), (1, _), (9, _)]) ⟨rfl, rfl, rfl, trivial⟩ ?_
  refine Post.then_ ?_
  refine Cd.seq ?_
  refine Cd.region ?_
  refine Seq.val (Runs.move rfl rfl) rfl rfl rfl ?_
  replace k0 : Blk _ g0 77 #[.int .i64 D.room, .map (some m), .int .i64 0, .int .i64 c1, .int .i64 c2, .bool false, .bool false, .int .i64 D.left] := k0
  refine Seq.call (Enters.func rfl rfl rfl (run_enter Tryz.func31 (by kernel_rfl) rfl)) rfl rfl rfl (namesU_any g0 m _ _ _ _ _ _ _ l _ k0 mp hk24 (by omega)) ?_
  rintro e w6 ⟨v6, rfl, own, hb6⟩
  refine ⟨_, rfl, ?_⟩
  have hsz6 := df.size
  replace own := own.mono (Nat.le_trans hBw hsz6)
  replace df := df.step hb6
  replace k0 := k0.step hb6
  replace mp := mp.step hb6
  replace fs := fs.step hb6
  obtain ⟨names, hnames⟩ : ∃ names, names = sortN (l.map (·.1)) := ⟨_, rfl⟩
  rw [← hnames] at own
  have hperm : names.Perm (l.map (·.1)) := by rw [hnames]; exact List.mergeSort_perm _ _
  have hnl : names.length = l.length := by rw [hperm.length_eq, List.length_map]
  obtain ⟨A6, c6, rfl, -⟩ := own.reads
  refine Seq.val (Runs.len rfl rfl Tryz.underlying22) rfl rfl rfl ?_
  refine Seq.val (Runs.move rfl rfl) rfl rfl rfl ?_
  refine Seq.nil ?_
  refine Post.weak (F' := [(0, _), (1, _), (9, _), (20, _), (21, _), (22, _)]) ⟨rfl, rfl, rfl, rfl, rfl, rfl, trivial⟩ ?_
  refine Post.then_ ?_
  refine Cd.block ?_
  obtain ⟨kf, hkf⟩ : ∃ kf, kf = keepOf names kp := ⟨_, rfl⟩
  refine Cd.loop (σ := Nat) (fun i => [(0, .pointer (some ⟨g0, 0, none⟩)), (1, .slice A nk ck), (20, .slice A6 l.length c6), (21, .int .i64 (l.length : Int)), (22, .int .i64 (i : Int))]) (fun i wr => i ≤ l.length ∧ Blk wr g0 77 #[.int .i64 D.room, .map (some m), .int .i64 (usedK D kf (names.take i) : Int), .int .i64 c1, .int .i64 c2, .bool false, .bool false, .int .i64 D.left] ∧ Mp wr m l ∧ Df B w wr ∧ Own wr B 9 1 (.slice A6 l.length c6) l.length (Ts names) ∧ ∃ Fi, Fs wr B l Fi ∧ ∀ p ∈ l, Fi p.2 = if p.1 ∈ names.take i then (F p.2).crash (kf p.1).1 (kf p.1).2 else F p.2) (fun i => l.length - i) 0 ⟨Nat.zero_le _, k0, mp, df, own, F, fs, fun p hp => by simp⟩ ⟨rfl, rfl, rfl, rfl, rfl, trivial⟩ ?_
  clear k0 mp df own fs
  rintro i wr ⟨hi, k0, mp, df, own, Fi, fs, hFi⟩
  refine Cd.seq ?_
  refine Cd.region ?_
  refine Seq.val (Runs.lss rfl rfl rfl) rfl rfl rfl ?_
  refine Seq.nil ?_
  refine Post.weak (F' := [(0, _), (1, _), (20, _), (21, _), (22, _), (23, _)]) ⟨rfl, rfl, rfl, rfl, rfl, rfl, trivial⟩ ?_
  refine Post.then_ ?_
  refine Cd.seq ?_
  refine Cd.condD rfl (fun hc => ?_) (fun hc => ?_)
  · obtain ⟨x, hx⟩ : ∃ x, names[i]? = some x := ⟨_, List.getElem?_eq_getElem (by omega)⟩
    obtain ⟨A6', c6', hv6, hr6⟩ := own.reads
    injection hv6 with e1 _ e2
    subst e1 e2
    obtain ⟨ad6, rfl, -, hcl6⟩ := hr6.2 (by omega)
    have hcx := hcl6 i (.string (strOf x)) (by rw [get_Ts, hx]; rfl)
    refine Cd.skip ?_
    refine Post.then_ ?_
    refine Cd.seq ?_
    refine Cd.block ?_
    refine Cd.seq ?_
    refine Cd.region ?_
    refine Seq.val (Runs.move rfl rfl) rfl rfl rfl ?_
    refine Seq.val (Runs.index1 rfl rfl rfl Tryz.underlying22 (by kernel_rfl) (j := i) rfl (by omega)) rfl rfl rfl ?_
    refine Seq.val (Runs.load1 rfl rfl Tryz.underlying9 rfl hcx) rfl rfl rfl ?_
    refine Seq.val (Runs.assign rfl rfl) rfl rfl rfl ?_
    refine Seq.val (Runs.assign rfl rfl) rfl rfl rfl ?_
    refine Seq.nil ?_
    refine Post.weak (F' := [(0, _), (1, _), (4, _), (5, _), (20, _), (21, _), (22, _), (23, _)]) ⟨rfl, rfl, rfl, rfl, rfl, rfl, rfl, rfl, trivial⟩ ?_
    refine Post.then_ ?_
    refine Cd.seq ?_
    refine Cd.region ?_
    refine Seq.val (Runs.build rfl rfl (run_build_keep _)) rfl rfl rfl ?_
    have hsz7 := df.size
    refine Seq.alloc rfl (run_zero zero_disk_Keep) rfl rfl rfl ?_
    intro g6 w4 n6
    have l6 := Nat.lt_of_lt_of_le k0.lt n6.ge
    replace df := df.step n6.below
    replace k0 := k0.step n6.below
    replace mp := mp.step n6.below
    replace fs := fs.step n6.below
    replace own := own.step n6.below
    have k6 := n6.blk
    have e6 : w.heap.size ≤ g6 := Nat.le_trans hsz7 n6.ge
    refine Seq.storeN rfl rfl rfl rfl (m := 2) (by kernel_rfl) rfl (by repeat' first | exact trivial | apply And.intro | rfl | assumption) k6 (by simp [Value.cells]) rfl rfl ?_
    intro w5 pw5
    replace df := df.put k6 pw5 e6
    replace k0 := k0.put pw5 (by omega)
    replace mp := mp.put k6 pw5 e6
    replace fs := fs.put k6 pw5 e6
    replace own := own.put k6 pw5 e6
    replace k6 := pw5.blk
    refine Seq.nil ?_
    refine Post.weak (F' := [(0, _), (1, _), (4, _), (5, _), (6, _), (20, _), (21, _), (22, _), (23, _)]) ⟨rfl, rfl, rfl, rfl, rfl, rfl, rfl, rfl, rfl, trivial⟩ ?_
    refine Post.then_ ?_
    refine Cd.seq ?_
    refine Cd.seq ?_
    refine Cd.region ?_
    refine Seq.val (Runs.move rfl rfl) rfl rfl rfl ?_
    refine Seq.val (Runs.move rfl rfl) rfl rfl rfl ?_
    refine Seq.val (Runs.len rfl rfl Tryz.underlying71) rfl rfl rfl ?_
    refine Seq.val (Runs.lss rfl rfl rfl) rfl rfl rfl ?_
    refine Seq.nil ?_
    refine Post.weak (F' := [(0, _), (1, _), (4, _), (5, _), (6, _), (20, _), (21, _), (22, _), (23, _), (31, _)]) ⟨rfl, rfl, rfl, rfl, rfl, rfl, rfl, rfl, rfl, rfl, trivial⟩ ?_
    refine Post.then_ ?_
    have hxm : x ∈ l.map (·.1) := hperm.mem_iff.1 (List.mem_of_getElem? hx)
    obtain ⟨fx0, hfx0⟩ := Option.isSome_iff_exists.1 (mem_names.1 (show x ∈ D.files.map (·.1) by rw [fl0, fs_names]; exact hxm))
    have hgs := get_some fl0 x
    rw [hfx0] at hgs
    obtain ⟨g9, hg9, hF9⟩ := Option.map_eq_some_iff.1 hgs.symm
    have hv : lkV l x = .pointer (some ⟨g9, 0, none⟩) := by unfold lkV; rw [hg9]; rfl
    have hfil := ok0.fil _ (get_mem hfx0)
    have hnot : x ∉ names.take i := fun hm2 => by
      obtain ⟨j, hj, e⟩ := List.getElem_of_mem hm2
      rw [List.length_take] at hj
      rw [List.getElem_take] at e
      have h1 : names[j]? = names[i]? := by rw [hx, List.getElem?_eq_getElem (by omega), e]
      have := (List.getElem?_inj (by omega) (hperm.nodup_iff.2 mp.nodup)).1 h1
      omega
    have hF9' : Fi g9 = fx0 := by
      have := hFi (x, g9) (lk_mem hg9)
      rw [if_neg hnot] at this
      rw [this, hF9]
    have hxs : ∀ c ∈ x, c < 256 := hfil.2.1
    have hnd : names.Nodup := hperm.nodup_iff.2 mp.nodup
    have hidx : names.idxOf x = i := by
      have h1 := (List.getElem?_eq_some_iff.1 hx).1
      have h2 := (List.getElem?_eq_some_iff.1 hx).2
      rw [← h2]
      exact hnd.idxOf_getElem i h1
    have hq : kf x = kp.getD i (0, -1) := by rw [hkf]; unfold keepOf; rw [hidx]
    refine Cd.condD rfl (fun hc => ?_) (fun hc => ?_)
    · obtain ⟨q, hqi⟩ : ∃ q, kp[i]? = some q := ⟨_, List.getElem?_eq_getElem (by omega)⟩
      obtain ⟨ad, rfl, -, -, hclk⟩ := hr.kp hqi
      have hq2 : kf x = q := by rw [hq, List.getD_eq_getElem?_getD, hqi]; rfl
      refine Cd.region ?_
      refine Seq.val (Runs.move rfl rfl) rfl rfl rfl ?_
      refine Seq.val (Runs.move rfl rfl) rfl rfl rfl ?_
      refine Seq.val (Runs.indexN rfl rfl rfl Tryz.underlying71 (s := 2) (by kernel_rfl) (j := i) rfl (by omega)) rfl rfl rfl ?_
      refine Seq.val (Runs.loadCs rfl rfl Tryz.underlying106 rfl (m := 2) (ps := [.int .i64 q.1, .int .i64 q.2]) (by kernel_rfl) rfl (hclk _ (df.to hBw))) rfl rfl rfl ?_
      refine Seq.storeN rfl rfl rfl rfl (m := 2) (by kernel_rfl) rfl (by repeat' first | exact trivial | apply And.intro | rfl | assumption) k6 (by simp [Value.cells]) rfl rfl ?_
      intro w6 pw6
      replace df := df.put k6 pw6 e6
      replace k0 := k0.put pw6 (by omega)
      replace mp := mp.put k6 pw6 e6
      replace fs := fs.put k6 pw6 e6
      replace own := own.put k6 pw6 e6
      replace k6 := pw6.blk
      refine Seq.nil ?_
      refine Post.weak (F' := [(0, _), (1, _), (4, _), (5, _), (6, _), (20, _), (21, _), (22, _), (23, _), (31, _)]) ⟨rfl, rfl, rfl, rfl, rfl, rfl, rfl, rfl, rfl, rfl, trivial⟩ ?_
      refine Post.then_ ?_
      refine Cd.seq ?_
      refine Cd.region ?_
      refine Seq.val (Runs.move rfl rfl) rfl rfl rfl ?_
      refine Seq.val (Runs.nilCheck rfl rfl) rfl rfl rfl ?_
      refine Seq.val (Runs.fieldB 1 rfl rfl Tryz.underlying77 rfl (by kernel_rfl)) rfl rfl rfl ?_
      refine Seq.val (Runs.loadB rfl rfl Tryz.underlying75 rfl k0 rfl) rfl rfl rfl ?_
      refine Seq.val (Runs.move rfl rfl) rfl rfl rfl ?_
      refine Seq.val (Runs.lookup1 rfl rfl rfl mp hxs Tryz.underlying75 Tryz.underlying9 zero_pfile) rfl rfl rfl ?_
      rw [hv]
      obtain ⟨e9, k9⟩ := fs.blk _ (lk_mem hg9)
      replace e9 : B ≤ g9 := e9
      replace k9 : Blk _ g9 91 (Fi g9).cs := k9
      rw [hF9'] at k9
      have fx := fs.off g9
      clear fs
      refine Seq.val (Runs.assign rfl rfl) rfl rfl rfl ?_
      refine Seq.nil ?_
      refine Post.weak (F' := [(0, _), (1, _), (4, _), (5, _), (6, _), (7, _), (20, _), (21, _), (22, _), (23, _), (31, _)]) ⟨rfl, rfl, rfl, rfl, rfl, rfl, rfl, rfl, rfl, rfl, rfl, trivial⟩ ?_
      refine Post.then_ ?_
      refine Cd.seq ?_
      refine Cd.region ?_
      refine Seq.val (Runs.move rfl rfl) rfl rfl rfl ?_
      refine Seq.val (Runs.loadW rfl rfl Tryz.underlying106 rfl k6 (m := 2) (by kernel_rfl) rfl) rfl rfl rfl ?_
      refine Seq.call (Enters.func rfl rfl rfl (run_enter Tryz.func53 (by kernel_rfl) rfl)) rfl rfl rfl (fcrash_any g9 fx0 q.1 q.2 _ k9 hfil.1 (hI q (List.mem_of_getElem? hqi)).1 (hI q (List.mem_of_getElem? hqi)).2) ?_
      rintro e w7 ⟨wa, wb, cc, rfl, hb7, k9, p1, p2⟩
      refine ⟨_, rfl, ?_⟩
      replace df := df.step hb7
      replace k0 := k0.step hb7
      replace mp := mp.step hb7
      replace own := own.step hb7
      replace k6 := k6.step hb7
      replace fx := fx.step hb7
      have hne69 : g6 ≠ g9 := k6.neT k9
      have hne09 : g0 ≠ g9 := k0.neT k9
      replace df := df.put k9 p1 e9
      replace k0 := k0.put p1 hne09
      replace mp := mp.put k9 p1 e9
      replace fx := fx.put k9 p1 e9 (.inr rfl)
      replace own := own.put k9 p1 e9
      replace k6 := k6.put p1 hne69
      replace k9 := p1.blk
      replace df := df.put k9 p2 e9
      replace k0 := k0.put p2 hne09
      replace mp := mp.put k9 p2 e9
      replace fx := fx.put k9 p2 e9 (.inr rfl)
      replace own := own.put k9 p2 e9
      replace k6 := k6.put p2 hne69
      replace k9 := p2.blk
      have fs := fx.on k9
      clear fx
      refine Seq.nil ?_
      refine Post.weak (F' := [(0, _), (1, _), (4, _), (5, _), (6, _), (7, _), (20, _), (21, _), (22, _), (23, _), (31, _)]) ⟨rfl, rfl, rfl, rfl, rfl, rfl, rfl, rfl, rfl, rfl, rfl, trivial⟩ ?_
      refine Post.then_ ?_
      have hcl := crash_len (f := fx0) hfil.1.2.1 (q.1) (q.2)
      have hfl3 := hfil.1.2.2
      simp only at hfl3
      have hus := usedK_le ok0 kf (names.take i)
      have htl : (names.take i).length ≤ 200 := by rw [List.length_take]; omega
      have hsz : szK D kf x = (fx0.crash (q.1) (q.2)).data.length := by unfold szK; rw [hfx0, hq2]; rfl
      have hus2 : usedK D kf (names.take (i + 1)) = usedK D kf (names.take i) + (fx0.crash (q.1) (q.2)).data.length := by rw [take_last hx, usedK_snoc, hsz]
      refine Cd.draw 12 (by kernel_rfl) [] (.inl rfl) rfl Grow Grow.refl (fun _ _ _ => Grow.trans) ?_
      intro w7 hw7 zw7
      replace df := df.step hw7
      replace k0 := k0.step hw7
      replace mp := mp.step hw7
      replace own := own.step hw7
      replace k6 := k6.step hw7
      replace fs := fs.step hw7
      replace k9 := k9.step hw7
      have zlt := k9.lt
      refine Dr.val Grow.refl rfl (fun w hG => Runs.move rfl rfl) rfl ?_
      refine Dr.val Grow.refl rfl (fun w hG => Runs.nilCheck rfl rfl) rfl ?_
      refine Dr.val Grow.refl rfl (fun w hG => Runs.fieldB 2 rfl rfl Tryz.underlying77 rfl (by kernel_rfl)) rfl ?_
      refine Dr.val Grow.refl rfl (fun w hG => Runs.loadB rfl rfl Tryz.underlying3 rfl (k0.step hG) rfl) rfl ?_
      refine Dr.val Grow.refl rfl (fun w hG => Runs.move rfl rfl) rfl ?_
      refine Dr.val Grow.refl rfl (fun w hG => Runs.nilCheck rfl rfl) rfl ?_
      refine Dr.val Grow.refl rfl (fun w hG => Runs.fieldB 0 rfl rfl Tryz.underlying91 rfl (by kernel_rfl)) rfl ?_
      refine Dr.val Grow.refl rfl (fun w hG => Runs.loadB rfl rfl Tryz.underlying9 rfl (k9.step hG) rfl) rfl ?_
      refine Dr.val Grow.refl rfl (fun w hG => Runs.lenL rfl rfl Tryz.underlying9) rfl ?_
      refine Dr.val Grow.refl rfl (fun w hG => Runs.addI rfl rfl rfl (by omega) (by omega)) rfl ?_
      refine Dr.val Grow.refl rfl (fun w hG => Runs.nilCheck rfl rfl) rfl ?_
      refine Dr.val Grow.refl rfl (fun w hG => Runs.fieldB 2 rfl rfl Tryz.underlying77 rfl (by kernel_rfl)) rfl ?_
      refine Dr.nil ?_
      refine FinX.done (F' := [(0, _), (1, _), (4, _), (5, _), (6, _), (7, _), (20, _), (21, _), (22, _), (23, _), (31, _), (54, _), (56, _)]) rfl ⟨rfl, rfl, rfl, rfl, rfl, rfl, rfl, rfl, rfl, rfl, rfl, rfl, rfl, trivial⟩ ?_
      intro w8 hw8 fw8
      replace df := df.step hw8
      replace k0 := k0.step hw8
      replace mp := mp.step hw8
      replace own := own.step hw8
      replace k6 := k6.step hw8
      replace fs := fs.step hw8
      replace k9 := k9.step hw8
      refine Seq.store1 rfl rfl rfl (by kernel_rfl) rfl rfl k0 rfl rfl rfl ?_
      intro w9 pw9
      replace df := df.put k0 pw9 e0
      replace mp := mp.put k0 pw9 e0
      replace own := own.put k0 pw9 e0
      replace k6 := k6.put pw9 (by omega)
      replace fs := fs.put k0 pw9 e0
      replace k9 := k9.put pw9 (by omega)
      replace k0 := pw9.blk
      refine Seq.nil ?_
      refine Post.weak (F' := [(0, _), (1, _), (4, _), (5, _), (6, _), (7, _), (20, _), (21, _), (22, _), (23, _), (31, _)]) ⟨rfl, rfl, rfl, rfl, rfl, rfl, rfl, rfl, rfl, rfl, rfl, trivial⟩ ?_
      refine Post.block_normal ?_
      refine Post.then_ ?_
      refine Cd.region ?_
      refine Seq.val (Runs.addI rfl rfl rfl (by omega) (by omega)) rfl rfl rfl ?_
      refine Seq.val (Runs.move rfl rfl) rfl rfl rfl ?_
      refine Seq.nil ?_
      refine Post.weak (F' := [(0, _), (1, _), (4, _), (5, _), (6, _), (7, _), (20, _), (21, _), (22, _), (23, _), (31, _)]) ⟨rfl, rfl, rfl, rfl, rfl, rfl, rfl, rfl, rfl, rfl, rfl, trivial⟩ ?_
      replace k0 : Blk _ g0 77 #[.int .i64 D.room, .map (some m), .int .i64 ((usedK D kf (names.take i) : Int) + ((fx0.crash (q.1) (q.2)).data.length : Int)), .int .i64 c1, .int .i64 c2, .bool false, .bool false, .int .i64 D.left] := k0
      rw [← Int.natCast_add, ← hus2] at k0
      have hone := fun p hp => mem_one (p := p) mp.nodup fs.nd (lk_mem hg9) hp
      refine Post.round (i + 1) ⟨rfl, rfl, rfl, rfl, int_at (by omega), trivial⟩ ⟨by omega, k0, mp, df, own, _, fs, fun p hp => ?_⟩ (by omega)
      rw [take_last hx]
      unfold setF
      by_cases e : p.1 = x
      · have e2 : p.2 = g9 := (hone p hp).1 e
        rw [if_pos e2, if_pos (by rw [e]; simp), e, hq2, e2, hF9]
      · have e2 : p.2 ≠ g9 := fun h => e ((hone p hp).2 h)
        rw [if_neg e2, hFi p hp]
        by_cases e3 : p.1 ∈ names.take i
        · rw [if_pos e3, if_pos (List.mem_append_left _ e3)]
        · rw [if_neg e3, if_neg (fun h => by
            rcases List.mem_append.1 h with h | h
            · exact e3 h
            · simp at h; exact e h)]
    · have hq2 : kf x = (0, -1) := by rw [hq, List.getD_eq_getElem?_getD, List.getElem?_eq_none (by omega)]; rfl
      refine Cd.skip ?_
      refine Post.then_ ?_
      refine Cd.seq ?_
      refine Cd.region ?_
      refine Seq.val (Runs.move rfl rfl) rfl rfl rfl ?_
      refine Seq.val (Runs.nilCheck rfl rfl) rfl rfl rfl ?_
      refine Seq.val (Runs.fieldB 1 rfl rfl Tryz.underlying77 rfl (by kernel_rfl)) rfl rfl rfl ?_
      refine Seq.val (Runs.loadB rfl rfl Tryz.underlying75 rfl k0 rfl) rfl rfl rfl ?_
      refine Seq.val (Runs.move rfl rfl) rfl rfl rfl ?_
      refine Seq.val (Runs.lookup1 rfl rfl rfl mp hxs Tryz.underlying75 Tryz.underlying9 zero_pfile) rfl rfl rfl ?_
      rw [hv]
      obtain ⟨e9, k9⟩ := fs.blk _ (lk_mem hg9)
      replace e9 : B ≤ g9 := e9
      replace k9 : Blk _ g9 91 (Fi g9).cs := k9
      rw [hF9'] at k9
      have fx := fs.off g9
      clear fs
      refine Seq.val (Runs.assign rfl rfl) rfl rfl rfl ?_
      refine Seq.nil ?_
      refine Post.weak (F' := [(0, _), (1, _), (4, _), (5, _), (6, _), (7, _), (20, _), (21, _), (22, _), (23, _), (31, _)]) ⟨rfl, rfl, rfl, rfl, rfl, rfl, rfl, rfl, rfl, rfl, rfl, trivial⟩ ?_
      refine Post.then_ ?_
      refine Cd.seq ?_
      refine Cd.region ?_
      refine Seq.val (Runs.move rfl rfl) rfl rfl rfl ?_
      refine Seq.val (Runs.loadW rfl rfl Tryz.underlying106 rfl k6 (m := 2) (by kernel_rfl) rfl) rfl rfl rfl ?_
      refine Seq.call (Enters.func rfl rfl rfl (run_enter Tryz.func53 (by kernel_rfl) rfl)) rfl rfl rfl (fcrash_any g9 fx0 0 (-1) _ k9 hfil.1 ⟨by omega, by omega⟩ ⟨by omega, by omega⟩) ?_
      rintro e w7 ⟨wa, wb, cc, rfl, hb7, k9, p1, p2⟩
      refine ⟨_, rfl, ?_⟩
      replace df := df.step hb7
      replace k0 := k0.step hb7
      replace mp := mp.step hb7
      replace own := own.step hb7
      replace k6 := k6.step hb7
      replace fx := fx.step hb7
      have hne69 : g6 ≠ g9 := k6.neT k9
      have hne09 : g0 ≠ g9 := k0.neT k9
      replace df := df.put k9 p1 e9
      replace k0 := k0.put p1 hne09
      replace mp := mp.put k9 p1 e9
      replace fx := fx.put k9 p1 e9 (.inr rfl)
      replace own := own.put k9 p1 e9
      replace k6 := k6.put p1 hne69
      replace k9 := p1.blk
      replace df := df.put k9 p2 e9
      replace k0 := k0.put p2 hne09
      replace mp := mp.put k9 p2 e9
      replace fx := fx.put k9 p2 e9 (.inr rfl)
      replace own := own.put k9 p2 e9
      replace k6 := k6.put p2 hne69
      replace k9 := p2.blk
      have fs := fx.on k9
      clear fx
      refine Seq.nil ?_
      refine Post.weak (F' := [(0, _), (1, _), (4, _), (5, _), (6, _), (7, _), (20, _), (21, _), (22, _), (23, _), (31, _)]) ⟨rfl, rfl, rfl, rfl, rfl, rfl, rfl, rfl, rfl, rfl, rfl, trivial⟩ ?_
      refine Post.then_ ?_
      have hcl := crash_len (f := fx0) hfil.1.2.1 (0) (-1)
      have hfl3 := hfil.1.2.2
      simp only at hfl3
      have hus := usedK_le ok0 kf (names.take i)
      have htl : (names.take i).length ≤ 200 := by rw [List.length_take]; omega
      have hsz : szK D kf x = (fx0.crash (0) (-1)).data.length := by unfold szK; rw [hfx0, hq2]; rfl
      have hus2 : usedK D kf (names.take (i + 1)) = usedK D kf (names.take i) + (fx0.crash (0) (-1)).data.length := by rw [take_last hx, usedK_snoc, hsz]
      refine Cd.draw 12 (by kernel_rfl) [] (.inl rfl) rfl Grow Grow.refl (fun _ _ _ => Grow.trans) ?_
      intro w6 hw6 zw6
      replace df := df.step hw6
      replace k0 := k0.step hw6
      replace mp := mp.step hw6
      replace own := own.step hw6
      replace k6 := k6.step hw6
      replace fs := fs.step hw6
      replace k9 := k9.step hw6
      have zlt := k9.lt
      refine Dr.val Grow.refl rfl (fun w hG => Runs.move rfl rfl) rfl ?_
      refine Dr.val Grow.refl rfl (fun w hG => Runs.nilCheck rfl rfl) rfl ?_
      refine Dr.val Grow.refl rfl (fun w hG => Runs.fieldB 2 rfl rfl Tryz.underlying77 rfl (by kernel_rfl)) rfl ?_
      refine Dr.val Grow.refl rfl (fun w hG => Runs.loadB rfl rfl Tryz.underlying3 rfl (k0.step hG) rfl) rfl ?_
      refine Dr.val Grow.refl rfl (fun w hG => Runs.move rfl rfl) rfl ?_
      refine Dr.val Grow.refl rfl (fun w hG => Runs.nilCheck rfl rfl) rfl ?_
      refine Dr.val Grow.refl rfl (fun w hG => Runs.fieldB 0 rfl rfl Tryz.underlying91 rfl (by kernel_rfl)) rfl ?_
      refine Dr.val Grow.refl rfl (fun w hG => Runs.loadB rfl rfl Tryz.underlying9 rfl (k9.step hG) rfl) rfl ?_
      refine Dr.val Grow.refl rfl (fun w hG => Runs.lenL rfl rfl Tryz.underlying9) rfl ?_
      refine Dr.val Grow.refl rfl (fun w hG => Runs.addI rfl rfl rfl (by omega) (by omega)) rfl ?_
      refine Dr.val Grow.refl rfl (fun w hG => Runs.nilCheck rfl rfl) rfl ?_
      refine Dr.val Grow.refl rfl (fun w hG => Runs.fieldB 2 rfl rfl Tryz.underlying77 rfl (by kernel_rfl)) rfl ?_
      refine Dr.nil ?_
      refine FinX.done (F' := [(0, _), (1, _), (4, _), (5, _), (6, _), (7, _), (20, _), (21, _), (22, _), (23, _), (31, _), (54, _), (56, _)]) rfl ⟨rfl, rfl, rfl, rfl, rfl, rfl, rfl, rfl, rfl, rfl, rfl, rfl, rfl, trivial⟩ ?_
      intro w7 hw7 fw7
      replace df := df.step hw7
      replace k0 := k0.step hw7
      replace mp := mp.step hw7
      replace own := own.step hw7
      replace k6 := k6.step hw7
      replace fs := fs.step hw7
      replace k9 := k9.step hw7
      refine Seq.store1 rfl rfl rfl (by kernel_rfl) rfl rfl k0 rfl rfl rfl ?_
      intro w8 pw8
      replace df := df.put k0 pw8 e0
      replace mp := mp.put k0 pw8 e0
      replace own := own.put k0 pw8 e0
      replace k6 := k6.put pw8 (by omega)
      replace fs := fs.put k0 pw8 e0
      replace k9 := k9.put pw8 (by omega)
      replace k0 := pw8.blk
      refine Seq.nil ?_
      refine Post.weak (F' := [(0, _), (1, _), (4, _), (5, _), (6, _), (7, _), (20, _), (21, _), (22, _), (23, _), (31, _)]) ⟨rfl, rfl, rfl, rfl, rfl, rfl, rfl, rfl, rfl, rfl, rfl, trivial⟩ ?_
      refine Post.block_normal ?_
      refine Post.then_ ?_
      refine Cd.region ?_
      refine Seq.val (Runs.addI rfl rfl rfl (by omega) (by omega)) rfl rfl rfl ?_
      refine Seq.val (Runs.move rfl rfl) rfl rfl rfl ?_
      refine Seq.nil ?_
      refine Post.weak (F' := [(0, _), (1, _), (4, _), (5, _), (6, _), (7, _), (20, _), (21, _), (22, _), (23, _), (31, _)]) ⟨rfl, rfl, rfl, rfl, rfl, rfl, rfl, rfl, rfl, rfl, rfl, trivial⟩ ?_
      replace k0 : Blk _ g0 77 #[.int .i64 D.room, .map (some m), .int .i64 ((usedK D kf (names.take i) : Int) + ((fx0.crash (0) (-1)).data.length : Int)), .int .i64 c1, .int .i64 c2, .bool false, .bool false, .int .i64 D.left] := k0
      rw [← Int.natCast_add, ← hus2] at k0
      have hone := fun p hp => mem_one (p := p) mp.nodup fs.nd (lk_mem hg9) hp
      refine Post.round (i + 1) ⟨rfl, rfl, rfl, rfl, int_at (by omega), trivial⟩ ⟨by omega, k0, mp, df, own, _, fs, fun p hp => ?_⟩ (by omega)
      rw [take_last hx]
      unfold setF
      by_cases e : p.1 = x
      · have e2 : p.2 = g9 := (hone p hp).1 e
        rw [if_pos e2, if_pos (by rw [e]; simp), e, hq2, e2, hF9]
      · have e2 : p.2 ≠ g9 := fun h => e ((hone p hp).2 h)
        rw [if_neg e2, hFi p hp]
        by_cases e3 : p.1 ∈ names.take i
        · rw [if_pos e3, if_pos (List.mem_append_left _ e3)]
        · rw [if_neg e3, if_neg (fun h => by
            rcases List.mem_append.1 h with h | h
            · exact e3 h
            · simp at h; exact e h)]
  obtain rfl : i = l.length := by omega
  have htk : names.take l.length = names := List.take_of_length_le (by omega)
  rw [htk] at k0 hFi
  have hgp : ∀ p ∈ l, D.get p.1 = some (F p.2) := fun p hp => get_of_mem (D := D) (p := (p.1, F p.2)) (by rw [fl0, fs_names]; exact mp.nodup) (by rw [fl0]; exact List.mem_map.2 ⟨p, hp, rfl⟩)
  have hFp : ∀ p ∈ l, Fi p.2 = (F p.2).crash (kf p.1).1 (kf p.1).2 := fun p hp => by
    rw [hFi p hp, if_pos (hperm.mem_iff.2 (List.mem_map.2 ⟨p, hp, rfl⟩))]
  have hfl : (D.crashed kf).files = fsOf l Fi := by
    show D.files.map _ = _
    rw [fl0]
    unfold fsOf
    rw [List.map_map]
    refine List.map_congr_left fun p hp => ?_
    show (p.1, (F p.2).crash (kf p.1).1 (kf p.1).2) = (p.1, Fi p.2)
    rw [hFp p hp]
  have hus : usedK D kf names = usedL (fsOf l Fi) := by
    rw [← usedK_files (D := D) (kf := kf) l (fun p hp => by unfold szK; rw [hgp p hp, hFp p hp]; rfl)]
    exact (hperm.map (szK D kf)).sum_nat
  have hsafe : ∀ p ∈ D.files, p.2.safe ≤ p.2.data.length := fun p hp => (ok0.fil p hp).1.2.1
  have hcu := crashed_used hsafe kf
  have hfit := ok0.fits
  have hok : (D.crashed kf).ok := ⟨ok0.room0, ok0.room1, by show (D.crashed kf).used ≤ D.room; omega, ok0.left0, ok0.left1, fun p hp => by
    obtain ⟨q, hq, rfl⟩ := List.mem_map.1 (show p ∈ D.files.map _ from hp)
    have h1 := ok0.fil q hq
    exact ⟨crash_ok h1.1 _ _, h1.2⟩, by show (D.files.map _).length ≤ 200; rw [List.length_map]; exact hmost⟩
  have k0' : Blk wr g0 77 ((D.crashed kf).cs m c1 c2) := by
    have e : (D.crashed kf).used = (usedK D kf names : Int) := by unfold Dk.used; rw [hfl, hus]
    unfold Dk.cs
    rw [e]
    exact k0
  have dk : DkAt wr B g0 (D.crashed kf) := ⟨m, l, Fi, c1, c2, k0', mp, hm, fs, hfl, e0, hok⟩
  refine Cd.exit ?_
  refine Post.then_exit ?_
  refine Post.round_exit ?_
  refine Post.block_exit ?_
  refine Post.end0 rfl (.inr rfl) ?_
  exact ⟨kf, rfl, dk, df⟩
end Go.Proofs.YtnlepoplncjliaaGreatDoor

namespace Go.Proofs.YtnlepoplncjliaaGreatDoor
open Go.RowKit

theorem recsG_settle : ∀ {gs : List (Nat × (List Nat × List Nat))}, (∀ g ∈ gs, (knownN g.2).2.2 = true ∧ (knownN g.2).1.length ≤ 131072) → recsG (gs.map settle) = recsG gs
  | [], _ => rfl
  | g :: r, h => by
    have ih := recsG_settle (gs := r) (fun x hx => h x (List.mem_cons_of_mem _ hx))
    obtain ⟨h1, h2⟩ := h g List.mem_cons_self
    have e1 : recsG ((g :: r).map settle) = ((knownN (settle g).2).1.map fun x => ((settle g).1, x)) ++ recsG (r.map settle) := by simp [recsG]
    have e2 : recsG (g :: r) = ((knownN g.2).1.map fun x => (g.1, x)) ++ recsG r := by simp [recsG]
    rw [e1, e2, ih, known_settle h1 h2]
    rfl
theorem Left.opens {F : Dk} {recs more : List (Nat × List Nat)} (h : Left F recs more) : ∃ D1 R nx gs, openW F [119] = (D1, 0, R, nx) ∧ GenIs D1 [119] (gs.map settle) ∧ (∀ g ∈ gs, (knownN g.2).2.2 = true ∧ (knownN g.2).1.length ≤ 131072) ∧ R = recsG gs ∧ gs.length ≤ 40 ∧ D1.files.length ≤ 110 ∧ D1.used ≤ 20480 ∧ D1.room = 1048576 ∧ F.off = false ∧ (∀ p ∈ F.files, OwnNm [119] p.1) ∧ (∃ D2 nx2, openW D1 [119] = (D2, 0, R, nx2)) ∧ (R = recs ∨ R = recs ++ more) ∧ D1.off = false ∧ (∀ p ∈ D1.files, OwnNm [119] p.1) ∧ ∀ g ∈ gs, Nice g.2 := by
  obtain ⟨⟨gs, hg, hk, hR, hl, hN⟩, hf, hu, hr⟩ := h
  obtain ⟨D1, o1, o2, o3, o4, o5⟩ := hg.opens (by decide) (by omega) (by omega) (fun g hgm => (hk g hgm).1)
  have hk2 : ∀ g ∈ gs.map settle, (knownN g.2).2.2 = true := fun g hgm => by
    obtain ⟨x, hx, rfl⟩ := List.mem_map.1 hgm
    obtain ⟨h1, h2⟩ := hk x hx
    rw [known_settle h1 h2]
  have hml : (gs.map settle).length = gs.length := List.length_map _
  obtain ⟨D2, q1, -⟩ := o2.opens (by decide) (by rw [hml]; omega) (by rw [hml]; omega) hk2
  refine ⟨D1, recsG gs, nextG 0 gs, gs, o1, o2, hk, rfl, hl, by omega, by omega, by omega, hg.calm.off, hg.own_nm, ⟨D2, nextG 0 (gs.map settle), ?_⟩, hR, o2.calm.off, o2.own_nm, hN⟩
  rw [q1, recsG_settle hk]
end Go.Proofs.YtnlepoplncjliaaGreatDoor

namespace Go.Proofs.YtnlepoplncjliaaGreatDoor
open Go.RowKit

/-- The power went by an act: what a crash leaves then. -/
def OffR (a : ActV) (E : Dk) (W : Wl) (segs : List (Nat × List (List Nat))) : Prop := E.off = true ∧ (∀ p ∈ E.files, OwnNm [119] p.1) ∧ ((a.kind = 0 ∧ ∀ kf, Left (E.crashed kf) (recsOf segs) [(W.num, a.data)]) ∨ (a.kind = 2 ∧ ∃ u t, segs = u ++ t ∧ (∀ s ∈ u, (s.1 : Int) < min a.n (W.num : Int)) ∧ ∀ kf, Left (E.crashed kf) (recsOf t) []))
end Go.Proofs.YtnlepoplncjliaaGreatDoor

namespace Go.Proofs.YtnlepoplncjliaaGreatDoor
open Go.RowKit

/-- A broken log's numbers are small. -/
structure Brk (W : Wl) (k : Nat) : Prop where
  broken : W.broken = true
  num : W.num ≤ 900 + k
  cnt : W.count ≤ 1000
  size : W.size ≤ 100000
theorem Brk.up {W : Wl} {k : Nat} (h : Brk W k) : Brk W (k + 1) := ⟨h.broken, Nat.le_succ_of_le h.num, h.cnt, h.size⟩
theorem Brk.rotate {W : Wl} {k : Nat} (h : Brk W k) : Brk W.rotate (k + 1) := by
  unfold Wl.rotate
  split
  · exact ⟨h.broken, Nat.succ_le_succ h.num, Nat.zero_le _, Nat.zero_le _⟩
  · exact h.up
theorem Brk.least {W : Wl} {k m : Nat} (h : Brk W k) (hm : m ≤ 900) : Brk (W.least (m : Int)) (k + 1) := by
  unfold Wl.least
  split
  · rw [Int.toNat_natCast]
    exact ⟨h.broken, by simp only; omega, Nat.zero_le _, Nat.zero_le _⟩
  · exact h.up
theorem Brk.app {W : Wl} {k : Nat} (h : Brk W k) (D : Dk) (nm data : List Nat) (hl : data.length ≤ 300) : appW W D nm data = (W, D, 6) := by
  unfold appW
  rw [if_neg (by omega), if_pos h.broken]
theorem Brk.ret {W : Wl} {k : Nat} (h : Brk W k) (D : Dk) (nm : List Nat) (n : Int) : retW W D nm n = (W, D, 6) := by
  unfold retW
  rw [if_pos h.broken]
set_option maxHeartbeats 8000000 in
theorem does_dead_any (B gr : Nat) (a : ActV) (D : Dk) (W : Wl) (segs : List (Nat × List (List Nat))) (k : Nat) (w : World) (gv : Gv w) (hgB : 4 < B) (hP : Brk W k) (hk : k ≤ 30) (hown : ∀ p ∈ D.files, OwnNm [119] p.1) (h : RunAt w B gr D W segs) (hd : Byt a.data) (hdl : a.data.length ≤ 300) (hn : I64 a.n) (ha0 : 0 ≤ a.kind) (ha3 : a.kind ≤ 3) :
    Calls Tryz.prog 25 #[.pointer (some ⟨gr, 0, none⟩), a.v] w fun e w' => ∃ W' x, e = .returned (.tuple #[.bool true, .bool x]) ∧ Brk W' (k + 1) ∧ RunAt w' B gr D W' segs ∧ Bf B w w' := by
  obtain ⟨⟨gd, g6, v, k90, dk, k6, own, e6⟩, e90⟩ := h
  have bf := Bf.refl B w
  have hBw := dk.size
  have hb1 := hP.num
  have hb2 := hP.cnt
  have hb3 := hP.size
  have hwn := hP.broken
  have hne6 := k90.neT k6
  obtain ⟨A0, c0, rfl, -⟩ := own.reads
  unfold ActV.v
  refine Calls.start 156 Tryz.func25 rfl rfl rfl ?_
  refine Cd.seq ?_
  refine Cd.region ?_
  refine Seq.box rfl rfl rfl rfl rfl ?_
  intro g3 w1 n3
  have l3 := Nat.lt_of_lt_of_le k6.lt n3.ge
  replace bf := bf.step n3.below
  replace gv := gv.step n3.below
  replace k90 := k90.step n3.below
  replace dk := dk.step n3.below
  replace k6 := k6.step n3.below
  replace own := own.step n3.below
  have k3 := n3.blk
  refine Seq.val (Runs.assign rfl rfl) rfl rfl rfl ?_
  refine Seq.val (Runs.assign rfl rfl) rfl rfl rfl ?_
  refine Seq.nil ?_
  refine Post.weak (F' := [(0, _), (1, _), (3, _), (4, _), (5, _)]) ⟨rfl, rfl, rfl, rfl, rfl, trivial⟩ ?_
  refine Post.then_ ?_
  refine Cd.seq ?_
  refine Cd.seq ?_
  refine Cd.region ?_
  refine Seq.val (Runs.fieldB 0 rfl rfl Tryz.underlying57 rfl (by kernel_rfl)) rfl rfl rfl ?_
  refine Seq.val (Runs.loadB rfl rfl Tryz.underlying3 rfl k3 rfl) rfl rfl rfl ?_
  refine Seq.nil ?_
  refine Post.weak (F' := [(0, _), (1, _), (3, _), (4, _), (5, _), (12, _)]) ⟨rfl, rfl, rfl, rfl, rfl, rfl, trivial⟩ ?_
  refine Post.then_ ?_
  refine Cd.block ?_
  refine Cd.seq ?_
  refine Cd.region ?_
  refine Seq.val (Runs.eqlI rfl rfl rfl) rfl rfl rfl ?_
  refine Seq.val (Runs.assign rfl rfl) rfl rfl rfl ?_
  refine Seq.nil ?_
  refine Post.weak (F' := [(0, _), (1, _), (3, _), (4, _), (5, _), (12, _), (13, _)]) ⟨rfl, rfl, rfl, rfl, rfl, rfl, rfl, trivial⟩ ?_
  refine Post.then_ ?_
  have hne3 := k90.neT k3
  have hne63 := k6.neT k3
  refine Cd.cond rfl (fun h => ?_) (fun h => ?_)
  · have hA := hP.app D [119] a.data hdl
    refine Cd.seq ?_
    refine Cd.draw 6 (by kernel_rfl) [] (.inl rfl) rfl Grow Grow.refl (fun _ _ _ => Grow.trans) ?_
    intro w2 hw2 zw2
    replace bf := bf.step hw2
    replace gv := gv.step hw2
    replace k90 := k90.step hw2
    replace dk := dk.step hw2
    replace k6 := k6.step hw2
    replace own := own.step hw2
    replace k3 := k3.step hw2
    have zlt := k3.lt
    refine Dr.val Grow.refl rfl (fun w hG => Runs.move rfl rfl) rfl ?_
    refine Dr.val Grow.refl rfl (fun w hG => Runs.nilCheck rfl rfl) rfl ?_
    refine Dr.val Grow.refl rfl (fun w hG => Runs.fieldB 1 rfl rfl Tryz.underlying59 rfl (by kernel_rfl)) rfl ?_
    refine Dr.val Grow.refl rfl (fun w hG => Runs.loadB rfl rfl Tryz.underlying28 rfl (k90.step hG) rfl) rfl ?_
    refine Dr.val Grow.refl rfl (fun w hG => Runs.fieldB 2 rfl rfl Tryz.underlying57 rfl (by kernel_rfl)) rfl ?_
    refine Dr.val Grow.refl rfl (fun w hG => Runs.loadB rfl rfl Tryz.underlying9 rfl (k3.step hG) rfl) rfl ?_
    refine Dr.nil ?_
    refine FinX.done (F' := [(0, _), (1, _), (3, _), (4, _), (5, _), (12, _), (13, _), (18, _), (20, _)]) rfl ⟨rfl, rfl, rfl, rfl, rfl, rfl, rfl, rfl, rfl, trivial⟩ ?_
    intro w3 hw3 fw3
    replace bf := bf.step hw3
    replace gv := gv.step hw3
    replace k90 := k90.step hw3
    replace dk := dk.step hw3
    replace k6 := k6.step hw3
    replace own := own.step hw3
    replace k3 := k3.step hw3
    refine Seq.call (Enters.func rfl rfl rfl (run_enter Tryz.func15 (by kernel_rfl) rfl)) rfl rfl rfl (append_w_any B g6 gd D [119] a.data W _ gv hgB e6 k6 dk (byt_one (by omega)) (by decide) (by omega) (by omega) (by omega) hd (by omega)) ?_
    clear k6 dk
    rintro e w4 ⟨rfl, k6, dk, fw4⟩
    refine ⟨_, rfl, ?_⟩
    replace bf := bf.lf fw4
    replace gv := gv.lf fw4
    replace k90 := k90.lf fw4
    replace own := own.lf fw4
    replace k3 := k3.lf fw4
    rw [hA] at k6 dk
    rw [hA]
    refine Seq.val (Runs.assign rfl rfl) rfl rfl rfl ?_
    refine Seq.nil ?_
    refine Post.weak (F' := [(0, _), (1, _), (3, _), (4, _), (5, _), (6, _), (12, _), (13, _)]) ⟨rfl, rfl, rfl, rfl, rfl, rfl, rfl, rfl, trivial⟩ ?_
    refine Post.then_ ?_
    refine Cd.seq ?_
    refine Cd.seq ?_
    refine Cd.region ?_
    refine Seq.val (Runs.move rfl rfl) rfl rfl rfl ?_
    refine Seq.val (Runs.eqlI rfl rfl rfl) rfl rfl rfl ?_
    refine Seq.nil ?_
    refine Post.weak (F' := [(0, _), (1, _), (3, _), (4, _), (5, _), (6, _), (12, _), (13, _), (23, _)]) ⟨rfl, rfl, rfl, rfl, rfl, rfl, rfl, rfl, rfl, trivial⟩ ?_
    refine Post.then_ ?_
    refine Cd.condT rfl rfl ?_
    refine Cd.seq ?_
    refine Cd.region ?_
    refine Seq.val (Runs.assign rfl rfl) rfl rfl rfl ?_
    refine Seq.val (Runs.assign rfl rfl) rfl rfl rfl ?_
    refine Seq.nil ?_
    refine Post.weak (F' := [(0, _), (1, _), (3, _), (4, _), (5, _), (6, _), (12, _), (13, _), (23, _)]) ⟨rfl, rfl, rfl, rfl, rfl, rfl, rfl, rfl, rfl, trivial⟩ ?_
    refine Post.then_ ?_
    refine Cd.ret ?_
    refine Post.then_ret ?_
    refine Post.block_ret ?_
    refine Post.then_ret ?_
    refine Post.end2 rfl rfl rfl (.inl rfl) ?_
    exact ⟨W, true, rfl, hP.up, ⟨⟨gd, g6, _, k90, dk, k6, own, e6⟩, e90⟩, bf⟩
  refine Cd.seq ?_
  refine Cd.region ?_
  refine Seq.val (Runs.eqlI rfl rfl rfl) rfl rfl rfl ?_
  refine Seq.val (Runs.assign rfl rfl) rfl rfl rfl ?_
  refine Seq.nil ?_
  refine Post.weak (F' := [(0, _), (1, _), (3, _), (4, _), (5, _), (12, _), (13, _), (45, _)]) ⟨rfl, rfl, rfl, rfl, rfl, rfl, rfl, rfl, trivial⟩ ?_
  refine Post.then_ ?_
  refine Cd.cond rfl (fun h => ?_) (fun h => ?_)
  · have hP' := hP.rotate
    refine Cd.seq ?_
    refine Cd.seq ?_
    refine Cd.region ?_
    refine Seq.val (Runs.move rfl rfl) rfl rfl rfl ?_
    refine Seq.val (Runs.nilCheck rfl rfl) rfl rfl rfl ?_
    refine Seq.val (Runs.fieldB 4 rfl rfl Tryz.underlying59 rfl (by kernel_rfl)) rfl rfl rfl ?_
    refine Seq.val (Runs.loadB rfl rfl Tryz.underlying4 rfl k90 rfl) rfl rfl rfl ?_
    refine Seq.nil ?_
    refine Post.weak (F' := [(0, _), (1, _), (3, _), (4, _), (5, _), (12, _), (13, _), (45, _), (50, _)]) ⟨rfl, rfl, rfl, rfl, rfl, rfl, rfl, rfl, rfl, trivial⟩ ?_
    refine Post.then_ ?_
    refine Cd.cond rfl (fun h => ?_) (fun h => ?_)
    · have h : 0 < W.count := by simpa using h
      have hrot : W.rotate = ⟨W.num + 1, 0, 0, W.broken⟩ := by unfold Wl.rotate; rw [if_pos h]
      refine Cd.seq ?_
      refine Cd.region ?_
      refine Seq.val (Runs.move rfl rfl) rfl rfl rfl ?_
      refine Seq.val (Runs.nilCheck rfl rfl) rfl rfl rfl ?_
      refine Seq.val (Runs.fieldB 3 rfl rfl Tryz.underlying59 rfl (by kernel_rfl)) rfl rfl rfl ?_
      refine Seq.val (Runs.loadB rfl rfl Tryz.underlying3 rfl k90 rfl) rfl rfl rfl ?_
      refine Seq.val (Runs.addI rfl rfl rfl (by omega) (by omega)) rfl rfl rfl ?_
      refine Seq.val (Runs.nilCheck rfl rfl) rfl rfl rfl ?_
      refine Seq.val (Runs.fieldB 3 rfl rfl Tryz.underlying59 rfl (by kernel_rfl)) rfl rfl rfl ?_
      refine Seq.store1 rfl rfl rfl (by kernel_rfl) rfl rfl k90 rfl rfl rfl ?_
      intro w2 pw2
      replace bf := bf.put k90 pw2 e90
      replace gv := gv.put k90 pw2 e90
      replace dk := dk.put k90 pw2 e90
      replace k6 := k6.put pw2 (by omega)
      replace own := own.put k90 pw2 e90
      replace k3 := k3.put pw2 (by omega)
      replace k90 := pw2.blk
      refine Seq.nil ?_
      refine Post.weak (F' := [(0, _), (1, _), (3, _), (4, _), (5, _), (12, _), (13, _), (45, _), (50, _)]) ⟨rfl, rfl, rfl, rfl, rfl, rfl, rfl, rfl, rfl, trivial⟩ ?_
      refine Post.then_ ?_
      refine Cd.region ?_
      refine Seq.val (Runs.move rfl rfl) rfl rfl rfl ?_
      refine Seq.val (Runs.nilCheck rfl rfl) rfl rfl rfl ?_
      refine Seq.val (Runs.fieldB 4 rfl rfl Tryz.underlying59 rfl (by kernel_rfl)) rfl rfl rfl ?_
      refine Seq.store1 rfl rfl rfl (by kernel_rfl) rfl rfl k90 rfl rfl rfl ?_
      intro w3 pw3
      replace bf := bf.put k90 pw3 e90
      replace gv := gv.put k90 pw3 e90
      replace dk := dk.put k90 pw3 e90
      replace k6 := k6.put pw3 (by omega)
      replace own := own.put k90 pw3 e90
      replace k3 := k3.put pw3 (by omega)
      replace k90 := pw3.blk
      refine Seq.nil ?_
      refine Post.weak (F' := [(0, _), (1, _), (3, _), (4, _), (5, _), (12, _), (13, _), (45, _), (50, _)]) ⟨rfl, rfl, rfl, rfl, rfl, rfl, rfl, rfl, rfl, trivial⟩ ?_
      refine Post.then_ ?_
      refine Cd.seq ?_
      have wk : WkAt _ B gd g6 D W := ⟨k6, dk⟩
      clear k6 dk
      refine Cd.weak (F' := [(0, _), (1, _), (3, _), (12, _), (13, _), (45, _), (50, _)]) ⟨rfl, rfl, rfl, rfl, rfl, rfl, rfl, trivial⟩ ?_
      refine Cd.drawJ 12 (by kernel_rfl) [] [4] (fun i h => by cases h) rfl rfl (.inl rfl) rfl (Lf B) (Lf.refl B) (fun _ _ _ => Lf.trans) (fun c w => WkAt w B gd g6 D (nthW W W.rotate c)) ?_
      intro w4 hw4 zw4
      replace bf := bf.step hw4
      replace gv := gv.step hw4
      replace k90 := k90.step hw4
      replace own := own.step hw4
      replace k3 := k3.step hw4
      replace wk := wk.step hw4
      refine ⟨wk, ?_⟩
      have zlt := k3.lt
      refine DJ.val rfl (Lf.refl B) rfl (fun w hG => Runs.move rfl rfl) rfl ?_
      refine DJ.val rfl (Lf.refl B) rfl (fun w hG => Runs.nilCheck rfl rfl) rfl ?_
      refine DJ.val rfl (Lf.refl B) rfl (fun w hG => Runs.fieldB 1 rfl rfl Tryz.underlying59 rfl (by kernel_rfl)) rfl ?_
      refine DJ.val rfl (Lf.refl B) rfl (fun w hG => Runs.loadB rfl rfl Tryz.underlying28 rfl (k90.lf hG) rfl) rfl ?_
      refine DJ.chain 0 rfl rfl (fun w => Enters.func rfl rfl rfl (run_enter Tryz.func29 (by kernel_rfl) rfl)) rfl (fun w hG wk => rotate_j B g6 gd D W w e6 wk (by omega)) ?_
      refine DJ.val rfl (Lf.refl B) rfl (fun w hG => Runs.move rfl rfl) rfl ?_
      refine DJ.val rfl (Lf.refl B) rfl (fun w hG => Runs.nilCheck rfl rfl) rfl ?_
      refine DJ.val rfl (Lf.refl B) rfl (fun w hG => Runs.fieldB 3 rfl rfl Tryz.underlying59 rfl (by kernel_rfl)) rfl ?_
      refine DJ.val rfl (Lf.refl B) rfl (fun w hG => Runs.loadB rfl rfl Tryz.underlying3 rfl (k90.lf hG) rfl) rfl ?_
      refine DJ.val rfl (Lf.refl B) rfl (fun w hG => Runs.eqlI rfl rfl rfl) rfl ?_
      refine DJ.val rfl (Lf.refl B) rfl (fun w hG => Runs.assign rfl rfl) rfl ?_
      refine DJ.val rfl (Lf.refl B) rfl (fun w hG => Runs.assign rfl rfl) rfl ?_
      refine DJ.nil ?_
      refine FinX.done (F' := [(0, _), (1, _), (3, _), (4, _), (5, _), (12, _), (13, _), (45, _), (50, _)]) rfl ⟨rfl, rfl, rfl, rfl, rfl, rfl, rfl, rfl, rfl, trivial⟩ ?_
      intro w5 hw5 fw5
      replace bf := bf.lf hw5
      replace gv := gv.lf hw5
      replace k90 := k90.lf hw5
      replace own := own.lf hw5
      replace k3 := k3.lf hw5
      clear wk
      have wk := fw5
      refine Seq.nil ?_
      refine Post.weak (F' := [(0, _), (1, _), (3, _), (4, _), (5, _), (12, _), (13, _), (45, _), (50, _)]) ⟨rfl, rfl, rfl, rfl, rfl, rfl, rfl, rfl, rfl, trivial⟩ ?_
      refine Post.then_ ?_
      refine Cd.ret ?_
      refine Post.block_ret ?_
      refine Post.then_ret ?_
      refine Post.end2 rfl rfl rfl (.inl rfl) ?_
      have wk : WkAt _ B gd g6 D W.rotate := wk
      refine ⟨W.rotate, false, ?_, hP', ⟨⟨gd, g6, _, ?_, wk.dk, wk.k, own, e6⟩, e90⟩, bf⟩
      · rw [hrot]; simp
      · rw [hrot]; exact k90
    · have h : ¬ (0 < W.count) := by simpa using h
      have hrot : W.rotate = W := by unfold Wl.rotate; rw [if_neg h]
      refine Cd.skip ?_
      refine Post.then_ ?_
      refine Cd.seq ?_
      have wk : WkAt _ B gd g6 D W := ⟨k6, dk⟩
      clear k6 dk
      refine Cd.weak (F' := [(0, _), (1, _), (3, _), (12, _), (13, _), (45, _), (50, _)]) ⟨rfl, rfl, rfl, rfl, rfl, rfl, rfl, trivial⟩ ?_
      refine Cd.drawJ 12 (by kernel_rfl) [] [4] (fun i h => by cases h) rfl rfl (.inl rfl) rfl (Lf B) (Lf.refl B) (fun _ _ _ => Lf.trans) (fun c w => WkAt w B gd g6 D (nthW W W.rotate c)) ?_
      intro w2 hw2 zw2
      replace bf := bf.step hw2
      replace gv := gv.step hw2
      replace k90 := k90.step hw2
      replace own := own.step hw2
      replace k3 := k3.step hw2
      replace wk := wk.step hw2
      refine ⟨wk, ?_⟩
      have zlt := k3.lt
      refine DJ.val rfl (Lf.refl B) rfl (fun w hG => Runs.move rfl rfl) rfl ?_
      refine DJ.val rfl (Lf.refl B) rfl (fun w hG => Runs.nilCheck rfl rfl) rfl ?_
      refine DJ.val rfl (Lf.refl B) rfl (fun w hG => Runs.fieldB 1 rfl rfl Tryz.underlying59 rfl (by kernel_rfl)) rfl ?_
      refine DJ.val rfl (Lf.refl B) rfl (fun w hG => Runs.loadB rfl rfl Tryz.underlying28 rfl (k90.lf hG) rfl) rfl ?_
      refine DJ.chain 0 rfl rfl (fun w => Enters.func rfl rfl rfl (run_enter Tryz.func29 (by kernel_rfl) rfl)) rfl (fun w hG wk => rotate_j B g6 gd D W w e6 wk (by omega)) ?_
      refine DJ.val rfl (Lf.refl B) rfl (fun w hG => Runs.move rfl rfl) rfl ?_
      refine DJ.val rfl (Lf.refl B) rfl (fun w hG => Runs.nilCheck rfl rfl) rfl ?_
      refine DJ.val rfl (Lf.refl B) rfl (fun w hG => Runs.fieldB 3 rfl rfl Tryz.underlying59 rfl (by kernel_rfl)) rfl ?_
      refine DJ.val rfl (Lf.refl B) rfl (fun w hG => Runs.loadB rfl rfl Tryz.underlying3 rfl (k90.lf hG) rfl) rfl ?_
      refine DJ.val rfl (Lf.refl B) rfl (fun w hG => Runs.eqlI rfl rfl rfl) rfl ?_
      refine DJ.val rfl (Lf.refl B) rfl (fun w hG => Runs.assign rfl rfl) rfl ?_
      refine DJ.val rfl (Lf.refl B) rfl (fun w hG => Runs.assign rfl rfl) rfl ?_
      refine DJ.nil ?_
      refine FinX.done (F' := [(0, _), (1, _), (3, _), (4, _), (5, _), (12, _), (13, _), (45, _), (50, _)]) rfl ⟨rfl, rfl, rfl, rfl, rfl, rfl, rfl, rfl, rfl, trivial⟩ ?_
      intro w3 hw3 fw3
      replace bf := bf.lf hw3
      replace gv := gv.lf hw3
      replace k90 := k90.lf hw3
      replace own := own.lf hw3
      replace k3 := k3.lf hw3
      clear wk
      have wk := fw3
      refine Seq.nil ?_
      refine Post.weak (F' := [(0, _), (1, _), (3, _), (4, _), (5, _), (12, _), (13, _), (45, _), (50, _)]) ⟨rfl, rfl, rfl, rfl, rfl, rfl, rfl, rfl, rfl, trivial⟩ ?_
      refine Post.then_ ?_
      refine Cd.ret ?_
      refine Post.block_ret ?_
      refine Post.then_ret ?_
      refine Post.end2 rfl rfl rfl (.inl rfl) ?_
      have wk : WkAt _ B gd g6 D W.rotate := wk
      refine ⟨W.rotate, false, ?_, hP', ⟨⟨gd, g6, _, ?_, wk.dk, wk.k, own, e6⟩, e90⟩, bf⟩
      · rw [hrot]; simp
      · rw [hrot]; exact k90
  refine Cd.seq ?_
  refine Cd.region ?_
  refine Seq.val (Runs.eqlI rfl rfl rfl) rfl rfl rfl ?_
  refine Seq.val (Runs.assign rfl rfl) rfl rfl rfl ?_
  refine Seq.nil ?_
  refine Post.weak (F' := [(0, _), (1, _), (3, _), (4, _), (5, _), (12, _), (13, _), (45, _), (71, _)]) ⟨rfl, rfl, rfl, rfl, rfl, rfl, rfl, rfl, rfl, trivial⟩ ?_
  refine Post.then_ ?_
  refine Cd.cond rfl (fun h => ?_) (fun h => ?_)
  · obtain ⟨m, hm, hm9⟩ : ∃ m : Nat, a.n % 18446744073709551616 % 900 = (m : Int) ∧ m < 900 := ⟨(a.n % 18446744073709551616 % 900).toNat, by omega, by omega⟩
    have hP' := hP.least (m := m) (by omega)
    obtain ⟨u, hu⟩ : ∃ u : Nat, a.n % 18446744073709551616 = (u : Int) := ⟨(a.n % 18446744073709551616).toNat, by omega⟩
    refine Cd.seq ?_
    refine Cd.region ?_
    refine Seq.val (Runs.fieldB 1 rfl rfl Tryz.underlying57 rfl (by kernel_rfl)) rfl rfl rfl ?_
    refine Seq.val (Runs.loadB rfl rfl Tryz.underlying3 rfl k3 rfl) rfl rfl rfl ?_
    refine Seq.val (Runs.convU (r := u) rfl rfl Tryz.underlying3 Tryz.underlying67 hu) rfl rfl rfl ?_
    refine Seq.val (Runs.remN rfl rfl rfl (by omega) (by omega)) rfl rfl rfl ?_
    have hum : (u : Int) % 900 = (m : Int) := by rw [← hu]; exact hm
    refine Seq.val (Runs.convI (r := (m : Int)) rfl rfl Tryz.underlying67 Tryz.underlying3 (by rw [hum]; exact wrapI (by omega) (by omega))) rfl rfl rfl ?_
    refine Seq.val (Runs.assign rfl rfl) rfl rfl rfl ?_
    refine Seq.nil ?_
    refine Post.weak (F' := [(0, _), (1, _), (3, _), (4, _), (5, _), (7, _), (12, _), (13, _), (45, _), (71, _)]) ⟨rfl, rfl, rfl, rfl, rfl, rfl, rfl, rfl, rfl, rfl, trivial⟩ ?_
    refine Post.then_ ?_
    refine Cd.seq ?_
    refine Cd.seq ?_
    refine Cd.region ?_
    refine Seq.val (Runs.move rfl rfl) rfl rfl rfl ?_
    refine Seq.val (Runs.move rfl rfl) rfl rfl rfl ?_
    refine Seq.val (Runs.nilCheck rfl rfl) rfl rfl rfl ?_
    refine Seq.val (Runs.fieldB 3 rfl rfl Tryz.underlying59 rfl (by kernel_rfl)) rfl rfl rfl ?_
    refine Seq.val (Runs.loadB rfl rfl Tryz.underlying3 rfl k90 rfl) rfl rfl rfl ?_
    refine Seq.val (Runs.gtr rfl rfl rfl) rfl rfl rfl ?_
    refine Seq.nil ?_
    refine Post.weak (F' := [(0, _), (1, _), (3, _), (4, _), (5, _), (7, _), (12, _), (13, _), (45, _), (71, _), (83, _)]) ⟨rfl, rfl, rfl, rfl, rfl, rfl, rfl, rfl, rfl, rfl, rfl, trivial⟩ ?_
    refine Post.then_ ?_
    refine Cd.cond rfl (fun h => ?_) (fun h => ?_)
    · have h : (W.num : Int) < (m : Int) := by simpa using h
      have hle : W.least (m : Int) = ⟨m, 0, 0, W.broken⟩ := by unfold Wl.least; rw [if_pos h, Int.toNat_natCast]
      refine Cd.seq ?_
      refine Cd.region ?_
      refine Seq.val (Runs.move rfl rfl) rfl rfl rfl ?_
      refine Seq.val (Runs.move rfl rfl) rfl rfl rfl ?_
      refine Seq.val (Runs.nilCheck rfl rfl) rfl rfl rfl ?_
      refine Seq.val (Runs.fieldB 3 rfl rfl Tryz.underlying59 rfl (by kernel_rfl)) rfl rfl rfl ?_
      refine Seq.store1 rfl rfl rfl (by kernel_rfl) rfl rfl k90 rfl rfl rfl ?_
      intro w2 pw2
      replace bf := bf.put k90 pw2 e90
      replace gv := gv.put k90 pw2 e90
      replace dk := dk.put k90 pw2 e90
      replace k6 := k6.put pw2 (by omega)
      replace own := own.put k90 pw2 e90
      replace k3 := k3.put pw2 (by omega)
      replace k90 := pw2.blk
      refine Seq.nil ?_
      refine Post.weak (F' := [(0, _), (1, _), (3, _), (4, _), (5, _), (7, _), (12, _), (13, _), (45, _), (71, _), (83, _)]) ⟨rfl, rfl, rfl, rfl, rfl, rfl, rfl, rfl, rfl, rfl, rfl, trivial⟩ ?_
      refine Post.then_ ?_
      refine Cd.region ?_
      refine Seq.val (Runs.move rfl rfl) rfl rfl rfl ?_
      refine Seq.val (Runs.nilCheck rfl rfl) rfl rfl rfl ?_
      refine Seq.val (Runs.fieldB 4 rfl rfl Tryz.underlying59 rfl (by kernel_rfl)) rfl rfl rfl ?_
      refine Seq.store1 rfl rfl rfl (by kernel_rfl) rfl rfl k90 rfl rfl rfl ?_
      intro w3 pw3
      replace bf := bf.put k90 pw3 e90
      replace gv := gv.put k90 pw3 e90
      replace dk := dk.put k90 pw3 e90
      replace k6 := k6.put pw3 (by omega)
      replace own := own.put k90 pw3 e90
      replace k3 := k3.put pw3 (by omega)
      replace k90 := pw3.blk
      refine Seq.nil ?_
      refine Post.weak (F' := [(0, _), (1, _), (3, _), (4, _), (5, _), (7, _), (12, _), (13, _), (45, _), (71, _), (83, _)]) ⟨rfl, rfl, rfl, rfl, rfl, rfl, rfl, rfl, rfl, rfl, rfl, trivial⟩ ?_
      refine Post.then_ ?_
      refine Cd.seq ?_
      have wk : WkAt _ B gd g6 D W := ⟨k6, dk⟩
      clear k6 dk
      refine Cd.weak (F' := [(0, _), (1, _), (3, _), (7, _), (12, _), (13, _), (45, _), (71, _), (83, _)]) ⟨rfl, rfl, rfl, rfl, rfl, rfl, rfl, rfl, rfl, trivial⟩ ?_
      refine Cd.drawJ 13 (by kernel_rfl) [] [5] (fun i h => by cases h) rfl rfl (.inl rfl) rfl (Lf B) (Lf.refl B) (fun _ _ _ => Lf.trans) (fun c w => WkAt w B gd g6 D (nthW W (W.least (m : Int)) c)) ?_
      intro w4 hw4 zw4
      replace bf := bf.step hw4
      replace gv := gv.step hw4
      replace k90 := k90.step hw4
      replace own := own.step hw4
      replace k3 := k3.step hw4
      replace wk := wk.step hw4
      refine ⟨wk, ?_⟩
      have zlt := k3.lt
      refine DJ.val rfl (Lf.refl B) rfl (fun w hG => Runs.move rfl rfl) rfl ?_
      refine DJ.val rfl (Lf.refl B) rfl (fun w hG => Runs.nilCheck rfl rfl) rfl ?_
      refine DJ.val rfl (Lf.refl B) rfl (fun w hG => Runs.fieldB 1 rfl rfl Tryz.underlying59 rfl (by kernel_rfl)) rfl ?_
      refine DJ.val rfl (Lf.refl B) rfl (fun w hG => Runs.loadB rfl rfl Tryz.underlying28 rfl (k90.lf hG) rfl) rfl ?_
      refine DJ.val rfl (Lf.refl B) rfl (fun w hG => Runs.move rfl rfl) rfl ?_
      refine DJ.chain 0 rfl rfl (fun w => Enters.func rfl rfl rfl (run_enter Tryz.func30 (by kernel_rfl) rfl)) rfl (fun w hG wk => least_j B g6 gd D (m : Int) W w e6 wk (by omega)) ?_
      refine DJ.val rfl (Lf.refl B) rfl (fun w hG => Runs.move rfl rfl) rfl ?_
      refine DJ.val rfl (Lf.refl B) rfl (fun w hG => Runs.nilCheck rfl rfl) rfl ?_
      refine DJ.val rfl (Lf.refl B) rfl (fun w hG => Runs.fieldB 3 rfl rfl Tryz.underlying59 rfl (by kernel_rfl)) rfl ?_
      refine DJ.val rfl (Lf.refl B) rfl (fun w hG => Runs.loadB rfl rfl Tryz.underlying3 rfl (k90.lf hG) rfl) rfl ?_
      refine DJ.val rfl (Lf.refl B) rfl (fun w hG => Runs.eqlI rfl rfl rfl) rfl ?_
      refine DJ.val rfl (Lf.refl B) rfl (fun w hG => Runs.assign rfl rfl) rfl ?_
      refine DJ.val rfl (Lf.refl B) rfl (fun w hG => Runs.assign rfl rfl) rfl ?_
      refine DJ.nil ?_
      refine FinX.done (F' := [(0, _), (1, _), (3, _), (4, _), (5, _), (7, _), (12, _), (13, _), (45, _), (71, _), (83, _)]) rfl ⟨rfl, rfl, rfl, rfl, rfl, rfl, rfl, rfl, rfl, rfl, rfl, trivial⟩ ?_
      intro w5 hw5 fw5
      replace bf := bf.lf hw5
      replace gv := gv.lf hw5
      replace k90 := k90.lf hw5
      replace own := own.lf hw5
      replace k3 := k3.lf hw5
      clear wk
      have wk := fw5
      refine Seq.nil ?_
      refine Post.weak (F' := [(0, _), (1, _), (3, _), (4, _), (5, _), (7, _), (12, _), (13, _), (45, _), (71, _), (83, _)]) ⟨rfl, rfl, rfl, rfl, rfl, rfl, rfl, rfl, rfl, rfl, rfl, trivial⟩ ?_
      refine Post.then_ ?_
      refine Cd.ret ?_
      refine Post.block_ret ?_
      refine Post.then_ret ?_
      refine Post.end2 rfl rfl rfl (.inl rfl) ?_
      have wk : WkAt _ B gd g6 D (W.least (m : Int)) := wk
      refine ⟨W.least (m : Int), false, ?_, hP', ⟨⟨gd, g6, _, ?_, wk.dk, wk.k, own, e6⟩, e90⟩, bf⟩
      · rw [hle]; simp
      · rw [hle]; exact k90
    · have h : ¬ ((W.num : Int) < (m : Int)) := by simpa using h
      have hle : W.least (m : Int) = W := by unfold Wl.least; rw [if_neg h]
      refine Cd.skip ?_
      refine Post.then_ ?_
      refine Cd.seq ?_
      have wk : WkAt _ B gd g6 D W := ⟨k6, dk⟩
      clear k6 dk
      refine Cd.weak (F' := [(0, _), (1, _), (3, _), (7, _), (12, _), (13, _), (45, _), (71, _), (83, _)]) ⟨rfl, rfl, rfl, rfl, rfl, rfl, rfl, rfl, rfl, trivial⟩ ?_
      refine Cd.drawJ 13 (by kernel_rfl) [] [5] (fun i h => by cases h) rfl rfl (.inl rfl) rfl (Lf B) (Lf.refl B) (fun _ _ _ => Lf.trans) (fun c w => WkAt w B gd g6 D (nthW W (W.least (m : Int)) c)) ?_
      intro w2 hw2 zw2
      replace bf := bf.step hw2
      replace gv := gv.step hw2
      replace k90 := k90.step hw2
      replace own := own.step hw2
      replace k3 := k3.step hw2
      replace wk := wk.step hw2
      refine ⟨wk, ?_⟩
      have zlt := k3.lt
      refine DJ.val rfl (Lf.refl B) rfl (fun w hG => Runs.move rfl rfl) rfl ?_
      refine DJ.val rfl (Lf.refl B) rfl (fun w hG => Runs.nilCheck rfl rfl) rfl ?_
      refine DJ.val rfl (Lf.refl B) rfl (fun w hG => Runs.fieldB 1 rfl rfl Tryz.underlying59 rfl (by kernel_rfl)) rfl ?_
      refine DJ.val rfl (Lf.refl B) rfl (fun w hG => Runs.loadB rfl rfl Tryz.underlying28 rfl (k90.lf hG) rfl) rfl ?_
      refine DJ.val rfl (Lf.refl B) rfl (fun w hG => Runs.move rfl rfl) rfl ?_
      refine DJ.chain 0 rfl rfl (fun w => Enters.func rfl rfl rfl (run_enter Tryz.func30 (by kernel_rfl) rfl)) rfl (fun w hG wk => least_j B g6 gd D (m : Int) W w e6 wk (by omega)) ?_
      refine DJ.val rfl (Lf.refl B) rfl (fun w hG => Runs.move rfl rfl) rfl ?_
      refine DJ.val rfl (Lf.refl B) rfl (fun w hG => Runs.nilCheck rfl rfl) rfl ?_
      refine DJ.val rfl (Lf.refl B) rfl (fun w hG => Runs.fieldB 3 rfl rfl Tryz.underlying59 rfl (by kernel_rfl)) rfl ?_
      refine DJ.val rfl (Lf.refl B) rfl (fun w hG => Runs.loadB rfl rfl Tryz.underlying3 rfl (k90.lf hG) rfl) rfl ?_
      refine DJ.val rfl (Lf.refl B) rfl (fun w hG => Runs.eqlI rfl rfl rfl) rfl ?_
      refine DJ.val rfl (Lf.refl B) rfl (fun w hG => Runs.assign rfl rfl) rfl ?_
      refine DJ.val rfl (Lf.refl B) rfl (fun w hG => Runs.assign rfl rfl) rfl ?_
      refine DJ.nil ?_
      refine FinX.done (F' := [(0, _), (1, _), (3, _), (4, _), (5, _), (7, _), (12, _), (13, _), (45, _), (71, _), (83, _)]) rfl ⟨rfl, rfl, rfl, rfl, rfl, rfl, rfl, rfl, rfl, rfl, rfl, trivial⟩ ?_
      intro w3 hw3 fw3
      replace bf := bf.lf hw3
      replace gv := gv.lf hw3
      replace k90 := k90.lf hw3
      replace own := own.lf hw3
      replace k3 := k3.lf hw3
      clear wk
      have wk := fw3
      refine Seq.nil ?_
      refine Post.weak (F' := [(0, _), (1, _), (3, _), (4, _), (5, _), (7, _), (12, _), (13, _), (45, _), (71, _), (83, _)]) ⟨rfl, rfl, rfl, rfl, rfl, rfl, rfl, rfl, rfl, rfl, rfl, trivial⟩ ?_
      refine Post.then_ ?_
      refine Cd.ret ?_
      refine Post.block_ret ?_
      refine Post.then_ret ?_
      refine Post.end2 rfl rfl rfl (.inl rfl) ?_
      have wk : WkAt _ B gd g6 D (W.least (m : Int)) := wk
      refine ⟨W.least (m : Int), false, ?_, hP', ⟨⟨gd, g6, _, ?_, wk.dk, wk.k, own, e6⟩, e90⟩, bf⟩
      · rw [hle]; simp
      · rw [hle]; exact k90
  refine Cd.seq ?_
  refine Cd.region ?_
  refine Seq.val (Runs.eqlI rfl rfl rfl) rfl rfl rfl ?_
  refine Seq.val (Runs.assign rfl rfl) rfl rfl rfl ?_
  refine Seq.nil ?_
  refine Post.weak (F' := [(0, _), (1, _), (3, _), (4, _), (5, _), (12, _), (13, _), (45, _), (71, _), (102, _)]) ⟨rfl, rfl, rfl, rfl, rfl, rfl, rfl, rfl, rfl, rfl, trivial⟩ ?_
  refine Post.then_ ?_
  refine Cd.cond rfl (fun h => ?_) (fun h => ?_)
  · have hA := hP.ret D [119] a.n
    refine Cd.seq ?_
    refine Cd.draw 6 (by kernel_rfl) [] (.inl rfl) rfl Grow Grow.refl (fun _ _ _ => Grow.trans) ?_
    intro w2 hw2 zw2
    replace bf := bf.step hw2
    replace gv := gv.step hw2
    replace k90 := k90.step hw2
    replace dk := dk.step hw2
    replace k6 := k6.step hw2
    replace own := own.step hw2
    replace k3 := k3.step hw2
    have zlt := k3.lt
    refine Dr.val Grow.refl rfl (fun w hG => Runs.move rfl rfl) rfl ?_
    refine Dr.val Grow.refl rfl (fun w hG => Runs.nilCheck rfl rfl) rfl ?_
    refine Dr.val Grow.refl rfl (fun w hG => Runs.fieldB 1 rfl rfl Tryz.underlying59 rfl (by kernel_rfl)) rfl ?_
    refine Dr.val Grow.refl rfl (fun w hG => Runs.loadB rfl rfl Tryz.underlying28 rfl (k90.step hG) rfl) rfl ?_
    refine Dr.val Grow.refl rfl (fun w hG => Runs.fieldB 1 rfl rfl Tryz.underlying57 rfl (by kernel_rfl)) rfl ?_
    refine Dr.val Grow.refl rfl (fun w hG => Runs.loadB rfl rfl Tryz.underlying3 rfl (k3.step hG) rfl) rfl ?_
    refine Dr.nil ?_
    refine FinX.done (F' := [(0, _), (1, _), (3, _), (4, _), (5, _), (12, _), (13, _), (45, _), (71, _), (102, _), (107, _), (109, _)]) rfl ⟨rfl, rfl, rfl, rfl, rfl, rfl, rfl, rfl, rfl, rfl, rfl, rfl, trivial⟩ ?_
    intro w3 hw3 fw3
    replace bf := bf.step hw3
    replace gv := gv.step hw3
    replace k90 := k90.step hw3
    replace dk := dk.step hw3
    replace k6 := k6.step hw3
    replace own := own.step hw3
    replace k3 := k3.step hw3
    refine Seq.call (Enters.func rfl rfl rfl (run_enter Tryz.func28 (by kernel_rfl) rfl)) rfl rfl rfl (retire_any B g6 gd D [119] a.n W _ gv hgB e6 k6 dk (byt_one (by omega)) (by decide) hown (by omega)) ?_
    clear k6 dk
    rintro e w4 ⟨rfl, k6, dk, fw4⟩
    refine ⟨_, rfl, ?_⟩
    replace bf := bf.lf fw4
    replace gv := gv.lf fw4
    replace k90 := k90.lf fw4
    replace own := own.lf fw4
    replace k3 := k3.lf fw4
    rw [hA] at k6 dk
    rw [hA]
    refine Seq.val (Runs.assign rfl rfl) rfl rfl rfl ?_
    refine Seq.nil ?_
    refine Post.weak (F' := [(0, _), (1, _), (3, _), (4, _), (5, _), (8, _), (12, _), (13, _), (45, _), (71, _), (102, _)]) ⟨rfl, rfl, rfl, rfl, rfl, rfl, rfl, rfl, rfl, rfl, rfl, trivial⟩ ?_
    refine Post.then_ ?_
    refine Cd.seq ?_
    refine Cd.seq ?_
    refine Cd.region ?_
    refine Seq.val (Runs.move rfl rfl) rfl rfl rfl ?_
    refine Seq.val (Runs.eqlI rfl rfl rfl) rfl rfl rfl ?_
    refine Seq.nil ?_
    refine Post.weak (F' := [(0, _), (1, _), (3, _), (4, _), (5, _), (8, _), (12, _), (13, _), (45, _), (71, _), (102, _), (112, _)]) ⟨rfl, rfl, rfl, rfl, rfl, rfl, rfl, rfl, rfl, rfl, rfl, rfl, trivial⟩ ?_
    refine Post.then_ ?_
    refine Cd.condT rfl rfl ?_
    refine Cd.seq ?_
    refine Cd.region ?_
    refine Seq.val (Runs.assign rfl rfl) rfl rfl rfl ?_
    refine Seq.val (Runs.assign rfl rfl) rfl rfl rfl ?_
    refine Seq.nil ?_
    refine Post.weak (F' := [(0, _), (1, _), (3, _), (4, _), (5, _), (8, _), (12, _), (13, _), (45, _), (71, _), (102, _), (112, _)]) ⟨rfl, rfl, rfl, rfl, rfl, rfl, rfl, rfl, rfl, rfl, rfl, rfl, trivial⟩ ?_
    refine Post.then_ ?_
    refine Cd.ret ?_
    refine Post.then_ret ?_
    refine Post.block_ret ?_
    refine Post.then_ret ?_
    refine Post.end2 rfl rfl rfl (.inl rfl) ?_
    exact ⟨W, true, rfl, hP.up, ⟨⟨gd, g6, _, k90, dk, k6, own, e6⟩, e90⟩, bf⟩
  exfalso
  simp at *
  omega
end Go.Proofs.YtnlepoplncjliaaGreatDoor

