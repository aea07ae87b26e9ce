/-
  Texts that were joined: CivA, DateC, BigA, BigB, BigC, BigD, BigE, BigF, BigG, BigH, BigI, TBigK, TNumR, TNumS, DateD, CivB, TNumH, TreJ, TreK, TreL, KN, TreM. Conditions: what each theorem names.
-/
import Derived.Test.YtijaldpmpjapiaaQ1
set_option linter.unusedSectionVars false
namespace Go.Proofs.Ytijaldpmpjapiaa
open Go.RowKit

/-- The first day of a year of an era. -/
def eraS (y : Nat) : Nat := 365 * y + y / 4 - y / 100 + y / 400
/-- The year of a day of an era. -/
def eraY (e : Nat) : Nat := (e - e / 1460 + e / 36524 - e / 146096) / 365
theorem eraG_step (e : Nat) (h : e + 1 ≤ 146096) : e - e / 1460 + e / 36524 - e / 146096 ≤ (e + 1) - (e + 1) / 1460 + (e + 1) / 36524 - (e + 1) / 146096 := by omega
theorem eraG_mono (k : Nat) : ∀ e, e + k ≤ 146096 → e - e / 1460 + e / 36524 - e / 146096 ≤ (e + k) - (e + k) / 1460 + (e + k) / 36524 - (e + k) / 146096 := by
  induction k with
  | zero => intro e _; exact Nat.le_refl _
  | succ k ih => intro e h; exact Nat.le_trans (ih e (by omega)) (eraG_step (e + k) (by omega))
theorem eraY_mono {e e' : Nat} (h : e ≤ e') (h1 : e' ≤ 146096) : eraY e ≤ eraY e' := by
  obtain ⟨k, rfl⟩ : ∃ k, e' = e + k := ⟨e' - e, by omega⟩
  exact Nat.div_le_div_right (eraG_mono k e h1)
def tabY (y : Nat) : Bool := Nat.beq (eraY (eraS y)) y && Nat.beq (eraY (eraS (y + 1) - 1)) y && Nat.blt (eraS y) (eraS (y + 1)) && Nat.ble (eraS (y + 1)) 146097
theorem tabY_all : ((List.range 20).all fun a => (List.range 20).all fun b => tabY (20 * a + b)) = true := by decide +kernel
theorem eraY_table (y : Nat) (h : y < 400) : eraY (eraS y) = y ∧ eraY (eraS (y + 1) - 1) = y ∧ eraS y < eraS (y + 1) ∧ eraS (y + 1) ≤ 146097 := by
  have h1 := List.all_eq_true.1 (List.all_eq_true.1 tabY_all (y / 20) (List.mem_range.2 (by omega))) (y % 20) (List.mem_range.2 (by omega))
  rw [show 20 * (y / 20) + y % 20 = y by omega] at h1
  unfold tabY at h1
  simp only [Bool.and_eq_true] at h1
  obtain ⟨⟨⟨a, b⟩, c⟩, d⟩ := h1
  exact ⟨Nat.eq_of_beq_eq_true a, Nat.eq_of_beq_eq_true b, Nat.le_of_ble_eq_true c, Nat.le_of_ble_eq_true d⟩
theorem eraS_last : eraS 400 = 146097 := by decide +kernel
theorem era_year (e : Nat) (h : e < 146097) : ∃ y, y < 400 ∧ eraS y ≤ e ∧ e < eraS (y + 1) := by
  have key : ∀ k, k ≤ 400 → e < eraS k → ∃ y, y < 400 ∧ eraS y ≤ e ∧ e < eraS (y + 1) := by
    intro k
    induction k with
    | zero => intro _ h; exact absurd h (Nat.not_lt_zero _)
    | succ k ih =>
      intro hk he
      rcases Nat.lt_or_ge e (eraS k) with h1 | h1
      · exact ih (by omega) h1
      · exact ⟨k, by omega, h1, he⟩
  exact key 400 (Nat.le_refl _) (by rw [eraS_last]; exact h)
theorem era_of (e : Nat) (h : e < 146097) : eraY e < 400 ∧ eraS (eraY e) ≤ e ∧ e < eraS (eraY e + 1) := by
  obtain ⟨y, h1, h2, h3⟩ := era_year e h
  obtain ⟨t1, t2, t3, t4⟩ := eraY_table y h1
  have a := eraY_mono h2 (by omega)
  have b := eraY_mono (e := e) (e' := eraS (y + 1) - 1) (by omega) (by omega)
  have : eraY e = y := by omega
  rw [this]
  exact ⟨h1, h2, h3⟩
/-- A month, and a day of it, of a day of a year that begins with March. -/
def lenM (m : Nat) : Nat := [31, 30, 31, 30, 31, 31, 30, 31, 30, 31, 31, 29].getD m 0
def tabM (t : Nat) : Bool := Nat.ble ((5 * t + 2) / 153) 11 && Nat.ble ((153 * ((5 * t + 2) / 153) + 2) / 5) t && Nat.blt (t - (153 * ((5 * t + 2) / 153) + 2) / 5) (lenM ((5 * t + 2) / 153)) && (!(Nat.beq (t - (153 * ((5 * t + 2) / 153) + 2) / 5) 28 && Nat.beq ((5 * t + 2) / 153) 11) || Nat.beq t 365)
theorem tabM_all : ((List.range 19).all fun a => (List.range 20).all fun b => Nat.ble 366 (20 * a + b) || tabM (20 * a + b)) = true := by decide +kernel
theorem month_table (t : Nat) (h : t < 366) : (5 * t + 2) / 153 ≤ 11 ∧ (153 * ((5 * t + 2) / 153) + 2) / 5 ≤ t ∧ t - (153 * ((5 * t + 2) / 153) + 2) / 5 < lenM ((5 * t + 2) / 153) ∧ (t - (153 * ((5 * t + 2) / 153) + 2) / 5 = 28 → (5 * t + 2) / 153 = 11 → t = 365) := by
  have h1 := List.all_eq_true.1 (List.all_eq_true.1 tabM_all (t / 20) (List.mem_range.2 (by omega))) (t % 20) (List.mem_range.2 (by omega))
  rw [show 20 * (t / 20) + t % 20 = t by omega] at h1
  have h0 : Nat.ble 366 t = false := by
    cases hb : Nat.ble 366 t with
    | false => rfl
    | true => have := Nat.le_of_ble_eq_true hb; omega
  rw [h0, Bool.false_or] at h1
  unfold tabM at h1
  simp only [Bool.and_eq_true] at h1
  obtain ⟨⟨⟨a, b⟩, c⟩, d⟩ := h1
  refine ⟨Nat.le_of_ble_eq_true a, Nat.le_of_ble_eq_true b, Nat.le_of_ble_eq_true c, fun e1 e2 => ?_⟩
  rw [e1, e2] at d
  exact Nat.eq_of_beq_eq_true (by simpa using d)
theorem leap_shift (q y : Nat) (h : leapB ((y : Int) + 1) = true) : leapB (((q * 400 + y : Nat) : Int) + 1) = true := by
  rw [leapB_iff] at *
  omega
theorem of_shift (q y : Nat) (h : y < 400) (mm d : Int) : (((q * 400 + y : Nat) : Int)) / 400 * 146097 + (((q * 400 + y : Nat) : Int) % 400 * 365 + ((q * 400 + y : Nat) : Int) % 400 / 4 - ((q * 400 + y : Nat) : Int) % 400 / 100 + ((153 * mm + 2) / 5 + d - 1)) - 719468 = q * 146097 + ((y : Int) * 365 + y / 4 - y / 100) + ((153 * mm + 2) / 5 + d - 1) - 719468 := by
  have a1 : (((q * 400 + y : Nat) : Int)) / 400 = q := by omega
  have a2 : ((q * 400 + y : Nat) : Int) % 400 = y := by omega
  rw [a1, a2]
  omega
theorem eraS_leap (y : Nat) : eraS (y + 1) - eraS y ≤ 366 ∧ (eraS (y + 1) - eraS y = 366 → leapB ((y : Int) + 1) = true) := by
  unfold eraS
  refine ⟨by omega, fun h => ?_⟩
  rw [leapB_iff]
  omega
theorem eraS_int (y : Nat) (h : y < 400) : (eraS y : Int) = (y : Int) * 365 + y / 4 - y / 100 := by unfold eraS; omega
theorem civ_core (n q e y t m d : Nat) (hn : n + 719468 = q * 146097 + e) (h1 : y < 400) (h2 : eraS y ≤ e) (h3 : e < eraS (y + 1)) (ht : t = e - eraS y) (hm : m = (5 * t + 2) / 153) (hd : d = t - (153 * m + 2) / 5 + 1) :
    ofZ (if 10 ≤ m then q * 400 + y + 1 else q * 400 + y : Nat) (if 10 ≤ m then m - 9 else m + 3 : Nat) d = n ∧ 1 ≤ (if 10 ≤ m then m - 9 else m + 3) ∧ (if 10 ≤ m then m - 9 else m + 3) ≤ 12 ∧ 1 ≤ d ∧ (d : Int) ≤ daysZ (if 10 ≤ m then q * 400 + y + 1 else q * 400 + y : Nat) (if 10 ≤ m then m - 9 else m + 3 : Nat) := by
  obtain ⟨l1, l2⟩ := eraS_leap y
  have hlp : t = 365 → leapB (((q * 400 + y : Nat) : Int) + 1) = true := fun h => leap_shift q y (l2 (by omega))
  have hi := eraS_int y h1
  have hsh := of_shift q y h1
  obtain ⟨m1, m2, m3, m4⟩ := month_table t (by omega)
  rw [← hm] at m1 m2 m3 m4
  have hzz : ∀ mm : Int, mm = m → (q : Int) * 146097 + ((y : Int) * 365 + y / 4 - y / 100) + ((153 * mm + 2) / 5 + (d : Int) - 1) - 719468 = n := by
    rintro mm rfl
    rw [← hi]
    omega
  clear hi l1 l2 h2 h3 hn
  obtain ⟨yy, hyy⟩ : ∃ yy, yy = q * 400 + y := ⟨_, rfl⟩
  rw [← hyy] at hlp hsh ⊢
  clear hyy
  by_cases hm10 : 10 ≤ m
  · simp only [hm10, if_true]
    refine ⟨?_, by omega, by omega, by omega, ?_⟩
    · unfold ofZ ofY ofM
      rw [if_pos (by omega), if_pos (by omega), show (((yy + 1 : Nat) : Int) - 1) = (yy : Int) by omega, hsh]
      exact hzz _ (by omega)
    · have : m = 10 ∨ m = 11 := by omega
      rcases this with rfl | rfl
      · replace m3 : t - (153 * 10 + 2) / 5 < 31 := m3
        unfold daysZ
        simp
        omega
      · replace m3 : t - (153 * 11 + 2) / 5 < 29 := m3
        unfold daysZ
        simp
        split
        · omega
        · rename_i hl
          have : t ≠ 365 := fun h => hl (hlp h)
          omega
  · simp only [hm10, if_false]
    refine ⟨?_, by omega, by omega, by omega, ?_⟩
    · unfold ofZ ofY ofM
      rw [if_neg (by omega), if_neg (by omega), hsh]
      exact hzz _ (by omega)
    · have : m = 0 ∨ m = 1 ∨ m = 2 ∨ m = 3 ∨ m = 4 ∨ m = 5 ∨ m = 6 ∨ m = 7 ∨ m = 8 ∨ m = 9 := by omega
      clear hzz hsh hlp hm10 m1 m4
      rcases this with rfl | rfl | rfl | rfl | rfl | rfl | rfl | rfl | rfl | rfl <;> (simp [lenM] at m3; unfold daysZ; simp; omega)
def yT (e : Nat) : Nat := e - eraS (eraY e)
def mT (e : Nat) : Nat := (5 * yT e + 2) / 153
def dT (e : Nat) : Nat := yT e - (153 * mT e + 2) / 5 + 1
def cY (q e : Nat) : Nat := if 10 ≤ mT e then q * 400 + eraY e + 1 else q * 400 + eraY e
def cM (e : Nat) : Nat := if 10 ≤ mT e then mT e - 9 else mT e + 3
theorem civ_qe (n q e : Nat) (hn : n + 719468 = q * 146097 + e) (he : e < 146097) : ofZ (cY q e) (cM e) (dT e) = n ∧ 1 ≤ cM e ∧ cM e ≤ 12 ∧ 1 ≤ dT e ∧ (dT e : Int) ≤ daysZ (cY q e) (cM e) := by
  obtain ⟨h1, h2, h3⟩ := era_of _ he
  have := civ_core n q e (eraY e) (yT e) (mT e) (dT e) hn h1 h2 h3 rfl rfl rfl
  unfold cY cM
  exact this
theorem ofOk_of (n : Nat) (y m d : Nat) (h : n ≤ 2932896) (hz : ofZ y m d = n) (h2 : 1 ≤ m) (h3 : m ≤ 12) (h4 : 1 ≤ d) (h5 : (d : Int) ≤ daysZ y m) : ofOk y m d = true := by
  have hday := of_day (y : Int) (m : Int) (d : Int)
  have hlo : (1970 : Int) ≤ y := by
    rcases Int.lt_or_le (y : Int) 1970 with hlt | hge
    · exfalso
      have h6 := of_le_y (y := (y : Int) + 1) (y' := 1970) (by omega)
      have hs := of_start
      have hdec := of_dec (y : Int)
      rcases Nat.lt_or_ge m 12 with hm12 | hm12
      · have hmn := of_month (y : Int) (m : Int) (by omega) (by omega)
        have hm2 := of_le_m (y := (y : Int)) (m := (m : Int) + 1) (m' := 12) (by omega) (by omega) (by omega)
        omega
      · have h12 : (m : Int) = 12 := by omega
        rw [h12] at hday h5 hz
        have : daysZ (y : Int) 12 = 31 := by unfold daysZ; simp
        omega
    · exact hge
  have hhi : (y : Int) ≤ 9999 := by
    rcases Int.lt_or_le 9999 (y : Int) with hlt | hge
    · exfalso
      have h6 := of_le_y (y := 10000) (y' := (y : Int)) (by omega)
      have hs := of_last
      have hm := of_le_m (y := (y : Int)) (m := 1) (m' := (m : Int)) (by omega) (by omega) (by omega)
      omega
    · exact hge
  unfold ofOk
  simp only [Bool.and_eq_true, decide_eq_true_eq]
  exact ⟨⟨⟨hlo, hhi⟩, by omega⟩, h5⟩
/-- A day's text. -/
def dayT (n : Nat) : List Nat := printD (cY ((n + 719468) / 146097) ((n + 719468) % 146097)) (cM ((n + 719468) % 146097)) (dT ((n + 719468) % 146097))
theorem dayT_of (n q e : Nat) (hq : (n + 719468) / 146097 = q) (he : (n + 719468) % 146097 = e) : dayT n = printD (cY q e) (cM e) (dT e) := by subst hq he; rfl
end Go.Proofs.Ytijaldpmpjapiaa

namespace Go.Proofs.Ytijaldpmpjapiaa
open Go.RowKit

theorem refLeap_any (y : Int) (w : World) (h0 : 0 ≤ y) (h1 : y ≤ 100000) : Calls Try.prog 134 #[.int .i64 y] w fun e w' => e = .returned (.bool (leapB y)) ∧ Grow w w' := by
  have bel := Below.refl w.heap.size w
  refine Calls.start 16 Try.func134 rfl rfl rfl ?_
  refine Cd.seq ?_
  refine Cd.region ?_
  refine Seq.val (Runs.assign rfl rfl) rfl rfl rfl ?_
  refine Seq.nil ?_
  refine Post.weak (F' := [(0, _), (2, _)]) ⟨rfl, rfl, trivial⟩ ?_
  refine Post.then_ ?_
  refine Cd.seq ?_
  refine Cd.region ?_
  refine Seq.val (Runs.move rfl rfl) rfl rfl rfl ?_
  refine Seq.val (Runs.remN rfl rfl rfl (by omega) (by omega)) rfl rfl rfl ?_
  refine Seq.val (Runs.eqlI rfl rfl rfl) rfl rfl rfl ?_
  refine Seq.val (Runs.move rfl rfl) rfl rfl rfl ?_
  refine SeqC.start ?_
  refine SeqC.open rfl rfl rfl rfl rfl rfl rfl (fun hcx => Runs.move rfl rfl) ?_
  refine SeqC.next rfl rfl rfl rfl rfl rfl rfl (fun hcx => Runs.remN rfl rfl rfl (by omega) (by omega)) ?_
  refine SeqC.next rfl rfl rfl rfl rfl rfl rfl (fun hcx => Runs.eqlI rfl rfl rfl) ?_
  refine SeqC.next rfl rfl rfl rfl rfl rfl rfl (fun hcx => Runs.move rfl rfl) ?_
  refine SeqC.open rfl rfl rfl rfl rfl rfl rfl (fun hcx => Runs.move rfl rfl) ?_
  refine SeqC.next rfl rfl rfl rfl rfl rfl rfl (fun hcx => Runs.remN rfl rfl rfl (by omega) (by omega)) ?_
  refine SeqC.next rfl rfl rfl rfl rfl rfl rfl (fun hcx => Runs.neqI rfl rfl rfl) ?_
  refine SeqC.andG rfl rfl rfl rfl rfl rfl rfl rfl rfl rfl rfl ?_
  refine SeqC.or rfl rfl rfl rfl rfl rfl rfl ?_
  refine Seq.val (Runs.assign rfl rfl) rfl rfl rfl ?_
  refine Seq.nil ?_
  refine Post.weak (F' := [(0, _), (2, _)]) ⟨rfl, rfl, trivial⟩ ?_
  refine Post.then_ ?_
  refine Cd.ret ?_
  refine Post.end1 rfl rfl (.inl rfl) ?_
  refine ⟨ret1 (bool_eq ?_), bel⟩
  rw [Bool.eq_iff_iff, leapB_iff]
  simp
  omega
theorem refDays_any (y m : Int) (w : World) (h0 : 0 ≤ y) (h1 : y ≤ 100000) (hm : I64 m) : Calls Try.prog 135 #[.int .i64 y, .int .i64 m] w fun e w' => e = .returned (.int .i64 (daysZ y m)) ∧ Grow w w' := by
  have bel := Below.refl w.heap.size w
  have hm1 := hm.1
  have hm2 := hm.2
  refine Calls.start 24 Try.func135 rfl rfl rfl ?_
  refine Cd.seq ?_
  refine Cd.region ?_
  refine Seq.val (Runs.assign rfl rfl) rfl rfl rfl ?_
  refine Seq.nil ?_
  refine Post.weak (F' := [(0, _), (1, _), (4, _)]) ⟨rfl, rfl, rfl, trivial⟩ ?_
  refine Post.then_ ?_
  refine Cd.seq ?_
  refine Cd.seq ?_
  refine Cd.region ?_
  refine Seq.val (Runs.move rfl rfl) rfl rfl rfl ?_
  refine Seq.val (Runs.lss rfl rfl rfl) rfl rfl rfl ?_
  refine Seq.val (Runs.move rfl rfl) rfl rfl rfl ?_
  refine SeqC.start ?_
  refine SeqC.open rfl rfl rfl rfl rfl rfl rfl (fun hcx => Runs.move rfl rfl) ?_
  refine SeqC.next rfl rfl rfl rfl rfl rfl rfl (fun hcx => Runs.gtr rfl rfl rfl) ?_
  refine SeqC.or rfl rfl rfl rfl rfl rfl rfl ?_
  refine Seq.nil ?_
  refine Post.weak (F' := [(0, _), (1, _), (4, _), (11, _)]) ⟨rfl, rfl, rfl, rfl, trivial⟩ ?_
  refine Post.then_ ?_
  refine Cd.cond rfl (fun h => ?_) (fun h => ?_)
  · skip
    refine Cd.seq ?_
    refine Cd.region ?_
    refine Seq.val (Runs.assign rfl rfl) rfl rfl rfl ?_
    refine Seq.nil ?_
    refine Post.weak (F' := [(0, _), (1, _), (4, _), (11, _)]) ⟨rfl, rfl, rfl, rfl, trivial⟩ ?_
    refine Post.then_ ?_
    refine Cd.ret ?_
    refine Post.then_ret ?_
    refine Post.end1 rfl rfl (.inl rfl) ?_
    refine ⟨ret1 (int_eq ?_), bel⟩
    simp at h
    unfold daysZ
    rw [if_neg (by omega), if_neg (by omega), if_neg (by omega)]
  · have hm3 : 1 ≤ m ∧ m ≤ 12 := by simp at h; omega
    clear h
    refine Cd.skip ?_
    refine Post.then_ ?_
    refine Cd.seq ?_
    refine Cd.region ?_
    refine Seq.slice (vs := [_, _, _, _, _, _, _, _, _, _, _, _]) (s := 1) rfl rfl rfl Try.underlying26 (by kernel_rfl) (zero_int) (by omega) (by omega) ⟨rfl, rfl, rfl, rfl, rfl, rfl, rfl, rfl, rfl, rfl, rfl, rfl, trivial⟩ rfl rfl rfl ?_
    intro g12 w1 n12
    have e12 := Nat.le_trans bel.size n12.ge
    replace bel := bel.step n12.below
    have k12 := n12.blk
    refine Seq.val (Runs.assign rfl rfl) rfl rfl rfl ?_
    refine Seq.nil ?_
    refine Post.weak (F' := [(0, _), (1, _), (4, _), (5, _), (11, _)]) ⟨rfl, rfl, rfl, rfl, rfl, trivial⟩ ?_
    refine Post.then_ ?_
    refine Cd.seq ?_
    refine Cd.seq ?_
    refine Cd.region ?_
    refine Seq.val (Runs.move rfl rfl) rfl rfl rfl ?_
    refine Seq.val (Runs.eqlI rfl rfl rfl) rfl rfl rfl ?_
    refine Seq.val (Runs.move rfl rfl) rfl rfl rfl ?_
    refine SeqC.start ?_
    refine SeqC.open rfl rfl rfl rfl rfl rfl rfl (fun hcx => Runs.move rfl rfl) ?_
    refine SeqC.nextC rfl rfl rfl rfl rfl rfl rfl (fun hcx => Enters.func rfl rfl rfl (run_enter Try.func134 (by kernel_rfl) rfl)) (fun hcx => refLeap_any y _ h0 h1) ?_
    intro w2 hw2
    replace bel := bel.step hw2
    replace k12 := k12.step hw2
    refine SeqC.and rfl rfl rfl rfl rfl rfl rfl ?_
    refine Seq.nil ?_
    refine Post.weak (F' := [(0, _), (1, _), (4, _), (5, _), (11, _), (18, _)]) ⟨rfl, rfl, rfl, rfl, rfl, rfl, trivial⟩ ?_
    refine Post.then_ ?_
    refine Cd.cond rfl (fun h => ?_) (fun h => ?_)
    · simp at h
      refine Cd.seq ?_
      refine Cd.region ?_
      refine Seq.val (Runs.assign rfl rfl) rfl rfl rfl ?_
      refine Seq.nil ?_
      refine Post.weak (F' := [(0, _), (1, _), (4, _), (5, _), (11, _), (18, _)]) ⟨rfl, rfl, rfl, rfl, rfl, rfl, trivial⟩ ?_
      refine Post.then_ ?_
      refine Cd.ret ?_
      refine Post.then_ret ?_
      refine Post.end1 rfl rfl (.inl rfl) ?_
      refine ⟨ret1 (int_eq ?_), bel⟩
      unfold daysZ
      rw [if_pos h.1, if_pos h.2]
    · simp at h
      refine Cd.skip ?_
      refine Post.then_ ?_
      refine Cd.seq ?_
      refine Cd.region ?_
      refine Seq.val (Runs.move rfl rfl) rfl rfl rfl ?_
      refine Seq.val (Runs.move rfl rfl) rfl rfl rfl ?_
      refine Seq.val (Runs.subI rfl rfl rfl (by omega) (by omega)) rfl rfl rfl ?_
      have hj : 0 ≤ m - 1 ∧ m - 1 < 12 := by omega
      have hv : (#[(.int .i64 31 : Value), .int .i64 28, .int .i64 31, .int .i64 30, .int .i64 31, .int .i64 30, .int .i64 31, .int .i64 31, .int .i64 30, .int .i64 31, .int .i64 30, .int .i64 31] : Array Value)[(m - 1).toNat]? = some (.int .i64 (daysZ y m)) := by
        rcases (show m = 1 ∨ m = 2 ∨ m = 3 ∨ m = 4 ∨ m = 5 ∨ m = 6 ∨ m = 7 ∨ m = 8 ∨ m = 9 ∨ m = 10 ∨ m = 11 ∨ m = 12 by omega) with rfl | rfl | rfl | rfl | rfl | rfl | rfl | rfl | rfl | rfl | rfl | rfl
        case inr.inl => unfold daysZ; rw [if_pos rfl, h rfl]; rfl
        all_goals rfl
      refine Seq.val (Runs.indexB rfl rfl rfl Try.underlying26 (by kernel_rfl) (j := (m - 1).toNat) (by omega) (by omega)) rfl rfl rfl ?_
      refine Seq.val (Runs.loadB rfl rfl Try.underlying3 rfl k12 hv) rfl rfl rfl ?_
      refine Seq.val (Runs.assign rfl rfl) rfl rfl rfl ?_
      refine Seq.nil ?_
      refine Post.weak (F' := [(0, _), (1, _), (4, _), (5, _), (11, _), (18, _)]) ⟨rfl, rfl, rfl, rfl, rfl, rfl, trivial⟩ ?_
      refine Post.then_ ?_
      refine Cd.ret ?_
      refine Post.end1 rfl rfl (.inl rfl) ?_
      exact ⟨rfl, bel⟩
theorem refCivil_any (y m d : Int) (w : World) (hok : ofOk y m d = true) : Calls Try.prog 86 #[.int .i64 (ofZ y m d)] w fun e w' => e = .returned (.tuple #[.int .i64 y, .int .i64 m, .int .i64 d]) ∧ Grow w w' := by
  have bel := Below.refl w.heap.size w
  obtain ⟨o1, o2, o3, o4, o5, o6, o7, o8, o9, o10⟩ := of_span hok
  obtain ⟨-, -, o11⟩ := daysZ_m (y := y) (m := m) (by omega)
  have hst := of_start
  have hda := of_day y m d
  have ha1 := of_le_m (y := y) (m := 1) (m' := m) (by omega) (by omega) (by omega)
  generalize hn : ofZ y m d = n at *
  refine Calls.start 48 Try.func86 rfl rfl rfl ?_
  refine Cd.seq ?_
  refine Cd.region ?_
  refine Seq.val (Runs.assign rfl rfl) rfl rfl rfl ?_
  refine Seq.val (Runs.assign rfl rfl) rfl rfl rfl ?_
  refine Seq.val (Runs.assign rfl rfl) rfl rfl rfl ?_
  refine Seq.nil ?_
  refine Post.weak (F' := [(0, _), (2, _), (3, _), (4, _)]) ⟨rfl, rfl, rfl, rfl, trivial⟩ ?_
  refine Post.then_ ?_
  refine Cd.seq ?_
  refine Cd.seq ?_
  refine Cd.region ?_
  refine Seq.val (Runs.move rfl rfl) rfl rfl rfl ?_
  refine Seq.val (Runs.lss rfl rfl rfl) rfl rfl rfl ?_
  refine Seq.val (Runs.move rfl rfl) rfl rfl rfl ?_
  refine SeqC.start ?_
  refine SeqC.open rfl rfl rfl rfl rfl rfl rfl (fun hcx => Runs.move rfl rfl) ?_
  refine SeqC.next rfl rfl rfl rfl rfl rfl rfl (fun hcx => Runs.gtr rfl rfl rfl) ?_
  refine SeqC.or rfl rfl rfl rfl rfl rfl rfl ?_
  refine Seq.nil ?_
  refine Post.weak (F' := [(0, _), (2, _), (3, _), (4, _), (12, _)]) ⟨rfl, rfl, rfl, rfl, rfl, trivial⟩ ?_
  refine Post.then_ ?_
  refine Cd.condF rfl (by simp; omega) ?_
  refine Cd.skip ?_
  refine Post.then_ ?_
  refine Cd.seq ?_
  refine Cd.region ?_
  refine Seq.val (Runs.assign rfl rfl) rfl rfl rfl ?_
  refine Seq.nil ?_
  refine Post.weak (F' := [(0, _), (2, _), (3, _), (4, _), (5, _), (12, _)]) ⟨rfl, rfl, rfl, rfl, rfl, rfl, trivial⟩ ?_
  refine Post.then_ ?_
  refine Cd.seq ?_
  refine Cd.block ?_
  refine Cd.loop (σ := Nat) (fun k => [(0, .int .i64 (n - ofZ (1970 + k) 1 1)), (5, .int .i64 (1970 + k))])
    (fun k wr => 1970 + (k : Int) ≤ y ∧ Below w.heap.size w wr) (fun k => (y - 1970 - k).toNat) 0 ⟨by simp; omega, bel⟩ ⟨congrArg (fun x : Int => some (Value.int .i64 x)) (show n = n - ofZ (1970 + ((0 : Nat) : Int)) 1 1 by show n = n - ofZ 1970 1 1; omega), rfl, trivial⟩ ?_
  clear bel
  rintro k wr ⟨hk, bel⟩
  have h1 := of_year (1970 + k)
  have h2 := of_le_y (y := 1970) (y' := 1970 + (k : Int)) (by omega)
  have h3 := of_le_y (y := 1970 + (k : Int)) (y' := y) hk
  have h4 : 1970 + (k : Int) < y → ofZ (1970 + (k : Int) + 1) 1 1 ≤ ofZ y 1 1 := fun h => of_le_y (y := 1970 + (k : Int) + 1) (y' := y) (by omega)
  have h5 : yearZ (1970 + (k : Int)) = if leapB (1970 + (k : Int)) then 366 else 365 := rfl
  have hnx : (1970 : Int) + ((k + 1 : Nat) : Int) = 1970 + (k : Int) + 1 := by omega
  have h6 : (1970 + (k : Int) < y) ∨ (1970 + (k : Int) = y) := by omega
  rw [hst] at h2
  generalize hY : 1970 + (k : Int) = Y at *
  refine Cd.seq ?_
  refine Cd.seq ?_
  refine Cd.region ?_
  refine Seq.val (Runs.move rfl rfl) rfl rfl rfl ?_
  refine Seq.val (Runs.geq rfl rfl rfl) rfl rfl rfl ?_
  refine Seq.val (Runs.move rfl rfl) rfl rfl rfl ?_
  refine SeqC.start ?_
  refine SeqC.open rfl rfl rfl rfl rfl rfl rfl (fun hcx => Runs.move rfl rfl) ?_
  refine SeqC.next rfl rfl rfl rfl rfl rfl rfl (fun hcx => Runs.geq rfl rfl rfl) ?_
  refine SeqC.next rfl rfl rfl rfl rfl rfl rfl (fun hcx => Runs.move rfl rfl) ?_
  refine SeqC.open rfl rfl rfl rfl rfl rfl rfl (fun hcx => Runs.move rfl rfl) ?_
  refine SeqC.nextC rfl rfl rfl rfl rfl rfl rfl (fun hcx => Enters.func rfl rfl rfl (run_enter Try.func134 (by kernel_rfl) rfl)) (fun hcx => refLeap_any Y _ (by omega) (by omega)) ?_
  intro w1 hw1
  replace bel := bel.step hw1
  refine SeqC.next rfl rfl rfl rfl rfl rfl rfl (fun hcx => Runs.not rfl rfl) ?_
  refine SeqC.orG rfl rfl rfl rfl rfl rfl rfl rfl rfl rfl rfl ?_
  refine SeqC.and rfl rfl rfl rfl rfl rfl rfl ?_
  refine Seq.nil ?_
  refine Post.weak (F' := [(0, _), (5, _), (23, _)]) ⟨rfl, rfl, rfl, trivial⟩ ?_
  refine Post.then_ ?_
  refine Cd.cond rfl (fun h => ?_) (fun h => ?_)
  · have hlt : Y < y := by
      rcases h6 with h6 | h6
      · exact h6
      · exfalso
        subst h6
        simp at h
        cases hl : leapB Y <;> rw [hl] at h h5 <;> simp at h h5 <;> omega
    have h7 := h4 hlt
    refine Cd.skip ?_
    refine Post.then_ ?_
    refine Cd.block ?_
    refine Cd.seq ?_
    refine Cd.region ?_
    refine Seq.val (Runs.move rfl rfl) rfl rfl rfl ?_
    refine Seq.val (Runs.subI rfl rfl rfl (by omega) (by omega)) rfl rfl rfl ?_
    refine Seq.val (Runs.assign rfl rfl) rfl rfl rfl ?_
    refine Seq.nil ?_
    refine Post.weak (F' := [(0, _), (5, _), (23, _)]) ⟨rfl, rfl, rfl, trivial⟩ ?_
    refine Post.then_ ?_
    refine Cd.seq ?_
    refine Cd.seq ?_
    refine Cd.region ?_
    refine Seq.val (Runs.move rfl rfl) rfl rfl rfl ?_
    refine Seq.call (Enters.func rfl rfl rfl (run_enter Try.func134 (by kernel_rfl) rfl)) rfl rfl rfl (refLeap_any Y _ (by omega) (by omega)) ?_
    rintro e w5 ⟨rfl, hb5⟩
    refine ⟨_, rfl, ?_⟩
    replace bel := bel.step hb5
    refine Seq.nil ?_
    refine Post.weak (F' := [(0, _), (5, _), (23, _), (27, _)]) ⟨rfl, rfl, rfl, rfl, trivial⟩ ?_
    refine Post.then_ ?_
    refine Cd.cond rfl (fun hl => ?_) (fun hl => ?_)
    · rw [hl, if_pos rfl] at h5
      refine Cd.region ?_
      refine Seq.val (Runs.move rfl rfl) rfl rfl rfl ?_
      refine Seq.val (Runs.subI rfl rfl rfl (by omega) (by omega)) rfl rfl rfl ?_
      refine Seq.val (Runs.assign rfl rfl) rfl rfl rfl ?_
      refine Seq.nil ?_
      refine Post.weak (F' := [(0, _), (5, _), (23, _), (27, _)]) ⟨rfl, rfl, rfl, rfl, trivial⟩ ?_
      refine Post.then_ ?_
      refine Cd.region ?_
      refine Seq.val (Runs.move rfl rfl) rfl rfl rfl ?_
      refine Seq.val (Runs.addI rfl rfl rfl (by omega) (by omega)) rfl rfl rfl ?_
      refine Seq.val (Runs.assign rfl rfl) rfl rfl rfl ?_
      refine Seq.nil ?_
      refine Post.weak (F' := [(0, _), (5, _), (23, _), (27, _)]) ⟨rfl, rfl, rfl, rfl, trivial⟩ ?_
      refine Post.block_normal ?_
      exact Post.round (k + 1) ⟨congrArg (fun x : Int => some (Value.int .i64 x)) (by rw [hnx]; omega), congrArg (fun x : Int => some (Value.int .i64 x)) hnx.symm, trivial⟩ ⟨by omega, bel⟩ (by omega)
    · rw [hl, if_neg (by simp)] at h5
      refine Cd.skip ?_
      refine Post.then_ ?_
      refine Cd.region ?_
      refine Seq.val (Runs.move rfl rfl) rfl rfl rfl ?_
      refine Seq.val (Runs.addI rfl rfl rfl (by omega) (by omega)) rfl rfl rfl ?_
      refine Seq.val (Runs.assign rfl rfl) rfl rfl rfl ?_
      refine Seq.nil ?_
      refine Post.weak (F' := [(0, _), (5, _), (23, _), (27, _)]) ⟨rfl, rfl, rfl, rfl, trivial⟩ ?_
      refine Post.block_normal ?_
      exact Post.round (k + 1) ⟨congrArg (fun x : Int => some (Value.int .i64 x)) (by rw [hnx]; omega), congrArg (fun x : Int => some (Value.int .i64 x)) hnx.symm, trivial⟩ ⟨by omega, bel⟩ (by omega)
  have hke : Y = y := by
    rcases h6 with h6 | h6
    · exfalso
      have h7 := h4 h6
      simp at h
      cases hl : leapB Y <;> rw [hl] at h h5 <;> simp at h h5 <;> omega
    · exact h6
  subst hke
  clear hk h6 h4
  refine Cd.exit ?_
  refine Post.then_exit ?_
  refine Post.round_exit ?_
  refine Post.block_exit ?_
  refine Post.then_ ?_
  refine Cd.seq ?_
  refine Cd.region ?_
  refine Seq.val (Runs.assign rfl rfl) rfl rfl rfl ?_
  refine Seq.nil ?_
  refine Post.weak (F' := [(0, _), (5, _), (6, _), (23, _)]) ⟨rfl, rfl, rfl, rfl, trivial⟩ ?_
  refine Post.then_ ?_
  refine Cd.seq ?_
  refine Cd.block ?_
  refine Cd.loop (σ := Nat) (fun j => [(0, .int .i64 (n - ofZ Y (1 + j) 1)), (5, .int .i64 Y), (6, .int .i64 (1 + j))])
    (fun j wr => 1 + (j : Int) ≤ m ∧ Below w.heap.size w wr) (fun j => (m - 1 - j).toNat) 0 ⟨by simp; omega, bel⟩ ⟨rfl, rfl, rfl, trivial⟩ ?_
  clear bel
  rintro j wr2 ⟨hj, bel⟩
  have b1 := of_le_m (y := Y) (m := 1) (m' := 1 + (j : Int)) (by omega) (by omega) (by omega)
  have b2 : 1 + (j : Int) < m → ofZ Y (1 + (j : Int)) 1 + daysZ Y (1 + (j : Int)) ≤ ofZ Y m 1 := fun h => by
    have e := of_month Y (1 + (j : Int)) (by omega) (by omega)
    have := of_le_m (y := Y) (m := 1 + (j : Int) + 1) (m' := m) (by omega) (by omega) (by omega)
    omega
  have b3 : 1 + (j : Int) < m → ofZ Y (1 + (j : Int) + 1) 1 = ofZ Y (1 + (j : Int)) 1 + daysZ Y (1 + (j : Int)) := fun h => of_month Y (1 + (j : Int)) (by omega) (by omega)
  have b5 : 1 + (j : Int) < m ∨ 1 + (j : Int) = m := by omega
  have b4 := daysZ_pos Y (1 + (j : Int))
  have hnx : (1 : Int) + ((j + 1 : Nat) : Int) = 1 + (j : Int) + 1 := by omega
  generalize hM : 1 + (j : Int) = M at *
  refine Cd.seq ?_
  refine Cd.seq ?_
  refine Cd.region ?_
  refine Seq.val (Runs.move rfl rfl) rfl rfl rfl ?_
  refine Seq.val (Runs.move rfl rfl) rfl rfl rfl ?_
  refine Seq.val (Runs.move rfl rfl) rfl rfl rfl ?_
  refine Seq.call (Enters.func rfl rfl rfl (run_enter Try.func135 (by kernel_rfl) rfl)) rfl rfl rfl (refDays_any Y M _ (by omega) (by omega) ⟨by omega, by omega⟩) ?_
  rintro e w5 ⟨rfl, hb5⟩
  refine ⟨_, rfl, ?_⟩
  replace bel := bel.step hb5
  refine Seq.val (Runs.geq rfl rfl rfl) rfl rfl rfl ?_
  refine Seq.nil ?_
  refine Post.weak (F' := [(0, _), (5, _), (6, _), (36, _)]) ⟨rfl, rfl, rfl, rfl, trivial⟩ ?_
  refine Post.then_ ?_
  refine Cd.condD rfl (fun hc => ?_) (fun hc => ?_)
  · have hlt : M < m := by
      rcases b5 with h | h
      · exact h
      · exfalso; subst h; omega
    have b6 := b2 hlt
    have b7 := b3 hlt
    refine Cd.skip ?_
    refine Post.then_ ?_
    refine Cd.block ?_
    refine Cd.seq ?_
    refine Cd.region ?_
    refine Seq.val (Runs.move rfl rfl) rfl rfl rfl ?_
    refine Seq.val (Runs.move rfl rfl) rfl rfl rfl ?_
    refine Seq.val (Runs.move rfl rfl) rfl rfl rfl ?_
    refine Seq.call (Enters.func rfl rfl rfl (run_enter Try.func135 (by kernel_rfl) rfl)) rfl rfl rfl (refDays_any Y M _ (by omega) (by omega) ⟨by omega, by omega⟩) ?_
    rintro e w6 ⟨rfl, hb6⟩
    refine ⟨_, rfl, ?_⟩
    replace bel := bel.step hb6
    refine Seq.val (Runs.subI rfl rfl rfl (by omega) (by omega)) rfl rfl rfl ?_
    refine Seq.val (Runs.assign rfl rfl) rfl rfl rfl ?_
    refine Seq.nil ?_
    refine Post.weak (F' := [(0, _), (5, _), (6, _), (36, _)]) ⟨rfl, rfl, rfl, rfl, trivial⟩ ?_
    refine Post.then_ ?_
    refine Cd.region ?_
    refine Seq.val (Runs.move rfl rfl) rfl rfl rfl ?_
    refine Seq.val (Runs.addI rfl rfl rfl (by omega) (by omega)) rfl rfl rfl ?_
    refine Seq.val (Runs.assign rfl rfl) rfl rfl rfl ?_
    refine Seq.nil ?_
    refine Post.weak (F' := [(0, _), (5, _), (6, _), (36, _)]) ⟨rfl, rfl, rfl, rfl, trivial⟩ ?_
    refine Post.block_normal ?_
    exact Post.round (j + 1) ⟨congrArg (fun x : Int => some (Value.int .i64 x)) (by rw [hnx, b7]; omega), rfl, congrArg (fun x : Int => some (Value.int .i64 x)) hnx.symm, trivial⟩ ⟨by omega, bel⟩ (by omega)
  · obtain rfl : M = m := by
      rcases b5 with h | h
      · have := b2 h; omega
      · exact h
    refine Cd.exit ?_
    refine Post.then_exit ?_
    refine Post.round_exit ?_
    refine Post.block_exit ?_
    refine Post.then_ ?_
    refine Cd.seq ?_
    refine Cd.region ?_
    refine Seq.val (Runs.move rfl rfl) rfl rfl rfl ?_
    refine Seq.val (Runs.move rfl rfl) rfl rfl rfl ?_
    refine Seq.val (Runs.move rfl rfl) rfl rfl rfl ?_
    refine Seq.val (Runs.addI rfl rfl rfl (by omega) (by omega)) rfl rfl rfl ?_
    refine Seq.val (Runs.assign rfl rfl) rfl rfl rfl ?_
    refine Seq.val (Runs.assign rfl rfl) rfl rfl rfl ?_
    refine Seq.val (Runs.assign rfl rfl) rfl rfl rfl ?_
    refine Seq.nil ?_
    refine Post.weak (F' := [(0, _), (2, _), (3, _), (4, _), (5, _), (6, _), (36, _)]) ⟨rfl, rfl, rfl, rfl, rfl, rfl, rfl, trivial⟩ ?_
    refine Post.then_ ?_
    refine Cd.ret ?_
    refine Post.end3 rfl rfl rfl rfl (.inl rfl) ?_
    exact ⟨ret3 rfl rfl (int_eq (by omega)), bel⟩
end Go.Proofs.Ytijaldpmpjapiaa

namespace Go.Proofs.Ytijaldpmpjapiaa
open Go.RowKit

/-- The number of some digits, the lowest first. -/
def val : List Nat → Nat
  | [] => 0
  | d :: l => d + 65536 * val l
/-- A number's digits, the lowest first, none above it nought. -/
def digs (n : Nat) : List Nat := if n = 0 then [] else n % 65536 :: digs (n / 65536)
termination_by n
decreasing_by omega
theorem digs_zero : digs 0 = [] := by rw [digs]; simp
/-- Digits as cells. -/
def U (l : List Nat) : List Value := l.map fun (d : Nat) => Value.int .u64 (d : Int)
theorem get_U (l : List Nat) (k : Nat) : (U l)[k]? = l[k]?.map fun (d : Nat) => Value.int .u64 (d : Int) := by simp [U]
end Go.Proofs.Ytijaldpmpjapiaa

namespace Go.Proofs.Ytijaldpmpjapiaa
open Go.RowKit

/-- A slice that holds a number's digits. -/
def MagR (w : World) (v : Value) (n : Nat) : Prop := ∃ A c, v = .slice A (digs n).length c ∧ (digs n).length ≤ c ∧ c ≤ 9223372036854775807 ∧ Reads w w.heap.size 1 A (digs n).length (U (digs n))
/-- Its block is none of the old ones. -/
def Fresh (base : Nat) (v : Value) : Prop := match v with
  | .slice (some A) _ _ => base ≤ A.block
  | _ => True
theorem Fresh.mono {b b' : Nat} {v : Value} (h : Fresh b v) (hb : b' ≤ b) : Fresh b' v := by
  unfold Fresh at *
  split <;> first | trivial | (simp only at h; omega)
theorem MagR.step {w w' : World} {v : Value} {n : Nat} (h : MagR w v n) (hb : Below w.heap.size w w') : MagR w' v n := by
  obtain ⟨A, c, e, h1, h2, h3⟩ := h
  exact ⟨A, c, e, h1, h2, (h3.below hb).more hb.size⟩
theorem MagR.drewN {w : World} {v : Value} {n : Nat} (h : MagR w v n) (k : Nat) : MagR (w.drewN k) v n := h
theorem MagR.nil (w : World) (c : Nat) (hc : c ≤ 9223372036854775807) : MagR w (.slice none 0 c) 0 := ⟨none, c, by rw [digs_zero]; rfl, by rw [digs_zero]; simp, hc, by rw [digs_zero]; exact Reads.none_⟩

/-- How two numbers stand. -/
def cmpZ (a b : Int) : Int := if a < b then -1 else if a = b then 0 else 1
def cmpN (a b : Nat) : Int := if a < b then -1 else if a = b then 0 else 1

end Go.Proofs.Ytijaldpmpjapiaa

namespace Go.Proofs.Ytijaldpmpjapiaa
open Go.RowKit

end Go.Proofs.Ytijaldpmpjapiaa

namespace Go.Proofs.Ytijaldpmpjapiaa
open Go.RowKit

end Go.Proofs.Ytijaldpmpjapiaa

namespace Go.Proofs.Ytijaldpmpjapiaa
open Go.RowKit

/-- A Big that is a number. -/
def BigR (w : World) (v : Value) (z : Int) : Prop := ∃ m, v = .agg #[.bool (decide (z < 0)), m] ∧ MagR w m z.natAbs
theorem BigR.step {w w' : World} {v : Value} {z : Int} (h : BigR w v z) (hb : Below w.heap.size w w') : BigR w' v z := by
  obtain ⟨m, e, h⟩ := h
  exact ⟨m, e, h.step hb⟩
/-- A store into a block that holds no numbers changes no digits. -/
theorem Reads.other {w w' : World} {B n g : Nat} {A : Option Addr} {l : List Nat} {cs : Array Value} {t : TypeId} {fr : Nat × Nat} (h : Reads w B 1 A n (U l)) (hg : w.heap[g]? = some (.cells cs t fr)) (hcs : ∀ (k : IntKind) (z : Int), Value.int k z ∉ cs.toList)
    (hgr : w.grownBy w' (some g)) : Reads w' B 1 A n (U l) := by
  refine ⟨h.1, fun hn => ?_⟩
  obtain ⟨ad, hA, hb, hc⟩ := h.2 hn
  refine ⟨ad, hA, hb, fun j u hu => ?_⟩
  have h1 := hc j u hu
  have hne : (ad.add j).block ≠ g := by
    intro he
    rw [get_U] at hu
    cases hl : l[j]? with
    | none => rw [hl] at hu; cases hu
    | some d =>
      rw [hl] at hu
      injection hu with hu
      subst hu
      unfold World.cell? at h1
      rw [he, hg] at h1
      simp only at h1
      split at h1
      · cases h1
      · exact hcs _ _ (Array.mem_toList_iff.2 (Array.mem_of_getElem? h1))
  have hlt : (ad.add j).block < w.heap.size := by
    unfold World.cell? at h1
    rcases Nat.lt_or_ge (ad.add j).block w.heap.size with h2 | h2
    · exact h2
    · rw [Array.getElem?_eq_none h2] at h1; cases h1
  rw [← h1]
  unfold World.cell?
  rw [hgr.block _ hlt (by intro e; injection e with e; exact hne e)]
theorem MagR.other {w w' : World} {n g : Nat} {v : Value} {cs : Array Value} {t : TypeId} {fr : Nat × Nat} (h : MagR w v n) (hg : w.heap[g]? = some (.cells cs t fr)) (hcs : ∀ (k : IntKind) (z : Int), Value.int k z ∉ cs.toList)
    (hgr : w.grownBy w' (some g)) : MagR w' v n := by
  obtain ⟨A, c, e, h1, h2, h3⟩ := h
  exact ⟨A, c, e, h1, h2, (h3.other hg hcs hgr).more hgr.size⟩

end Go.Proofs.Ytijaldpmpjapiaa

namespace Go.Proofs.Ytijaldpmpjapiaa
open Go.RowKit

theorem MagR.put {w w' : World} {v : Value} {n g : Nat} {T : TypeId} {cur cs : Array Value} {B : Nat} (h : MagR w v n) (k : Blk w g T cur) (p : Put w w' g T cs) (_e : B ≤ g) (hcs : ∀ (k : IntKind) (z : Int), Value.int k z ∉ cur.toList := by simp [Value.cells, *]) : MagR w' v n := h.other k hcs p.grown
theorem MagR.one {w : World} {v : Value} {n : Nat} (h : MagR w v n) : v.oneCell' = true := by obtain ⟨A, c, rfl, _⟩ := h; rfl

theorem BigR.stable (z : Int) : ∀ v w w', Grow w w' → BigR w v z → BigR w' v z := fun _ _ _ hG h => h.step hG
theorem MagR.stable (z : Nat) : ∀ v w w', Grow w w' → MagR w v z → MagR w' v z := fun _ _ _ hG h => h.step hG

/-- A bound that all numbers here keep. -/
def big : Nat := 65536 ^ 60
end Go.Proofs.Ytijaldpmpjapiaa

namespace Go.Proofs.Ytijaldpmpjapiaa
open Go.RowKit

theorem BigR.agg {w : World} {v : Value} {z : Int} (h : BigR w v z) : ∃ m, v = .agg #[.bool (decide (z < 0)), m] ∧ m.oneCell' = true ∧ MagR w m z.natAbs := by
  obtain ⟨m, e, hm⟩ := h
  exact ⟨m, e, hm.one, hm⟩
theorem BigR.put {w w' : World} {v : Value} {z : Int} {g B : Nat} {T : TypeId} {cur cs : Array Value} (h : BigR w v z) (k : Blk w g T cur) (p : Put w w' g T cs) (e : B ≤ g) (hcs : ∀ (k : IntKind) (z : Int), Value.int k z ∉ cur.toList := by simp [Value.cells, *]) : BigR w' v z := by
  obtain ⟨m, e1, hm⟩ := h
  exact ⟨m, e1, hm.put k p e hcs⟩
end Go.Proofs.Ytijaldpmpjapiaa

namespace Go.Proofs.Ytijaldpmpjapiaa
open Go.RowKit

end Go.Proofs.Ytijaldpmpjapiaa

namespace Go.Proofs.Ytijaldpmpjapiaa
open Go.RowKit

/-- The number of the digits from k on. -/
def valFrom (l : List Nat) (k : Nat) : Nat := val (l.drop k)
end Go.Proofs.Ytijaldpmpjapiaa

namespace Go.Proofs.Ytijaldpmpjapiaa
open Go.RowKit

theorem digs_0 : digs 0 = [] := by unfold digs; rfl
theorem MagR.zero (w : World) : MagR w (.slice none 0 0) 0 := ⟨none, 0, by rw [digs_0]; rfl, by rw [digs_0]; simp, by omega, by rw [digs_0]; exact Reads.none_⟩
theorem Reads.otherU {w w' : World} {B n g : Nat} {A : Option Addr} {l : List Nat} {cs : Array Value} {t : TypeId} {fr : Nat × Nat} (h : Reads w B 1 A n (U l)) (hg : w.heap[g]? = some (.cells cs t fr)) (hcs : ∀ (z : Int), Value.int .u64 z ∉ cs.toList)
    (hgr : w.grownBy w' (some g)) : Reads w' B 1 A n (U l) := by
  refine ⟨h.1, fun hn => ?_⟩
  obtain ⟨ad, hA, hb, hc⟩ := h.2 hn
  refine ⟨ad, hA, hb, fun j u hu => ?_⟩
  have h1 := hc j u hu
  have hne : (ad.add j).block ≠ g := by
    intro he
    rw [get_U] at hu
    cases hl : l[j]? with
    | none => rw [hl] at hu; cases hu
    | some d =>
      rw [hl] at hu
      injection hu with hu
      subst hu
      unfold World.cell? at h1
      rw [he, hg] at h1
      simp only at h1
      split at h1
      · cases h1
      · exact hcs _ (Array.mem_toList_iff.2 (Array.mem_of_getElem? h1))
  have hlt : (ad.add j).block < w.heap.size := by
    unfold World.cell? at h1
    rcases Nat.lt_or_ge (ad.add j).block w.heap.size with h2 | h2
    · exact h2
    · rw [Array.getElem?_eq_none h2] at h1; cases h1
  rw [← h1]
  unfold World.cell?
  rw [hgr.block _ hlt (by intro e; injection e with e; exact hne e)]
structure MagU (w : World) (m : Value) (n : Nat) : Prop where
  mag : MagR w m n
theorem MagU.step {w w' : World} {m : Value} {n : Nat} (h : MagU w m n) (hb : Below w.heap.size w w') : MagU w' m n := ⟨h.mag.step hb⟩
theorem MagU.put {w w' : World} {m : Value} {n g B : Nat} {T : TypeId} {cur cs : Array Value} (h : MagU w m n) (k : Blk w g T cur) (p : Put w w' g T cs) (_e : B ≤ g) (hcs : ∀ (z : Int), Value.int .u64 z ∉ cur.toList := by simp [Value.cells, *]) : MagU w' m n := by
  obtain ⟨A, c, e, h1, h2, h3⟩ := h.mag
  exact ⟨A, c, e, h1, h2, (h3.otherU k hcs p.grown).more p.grown.size⟩
theorem MagU.big {w : World} {m : Value} {r : Nat} (h : MagU w m r) : BigR w (.agg [Value.bool false, m].toArray) (r : Int) := ⟨m, by rw [decide_eq_false (show ¬ (r : Int) < 0 by omega)], by rw [Int.natAbs_natCast]; exact h.mag⟩
end Go.Proofs.Ytijaldpmpjapiaa

namespace Go.Proofs.Ytijaldpmpjapiaa
open Go.RowKit

/-- The bytes of the first k rounds, the last first. -/
def prR (u d k : Nat) : List Nat := (prB u d k).reverse
theorem refPrint_any (n : Int) (d : Nat) (w : World) (hn : I64 n) (hd : d ≤ 9) :
    Calls Try.prog 46 #[.int .i64 n, .int .i64 (d : Int)] w fun e w' => (∃ N, Rounds n.natAbs d N ∧ N ≤ 20 ∧ e = .returned (.string (strOf (printed n d N)))) ∧ Grow w w' := by
  have bel := Below.refl w.heap.size w
  have hu : n.natAbs ≤ 9223372036854775808 := by have := hn.1; have := hn.2; omega
  have hn1 := hn.1
  have hn2 := hn.2
  refine Calls.start 47 Try.func46 rfl rfl rfl ?_
  refine Cd.seq ?_
  refine Cd.region ?_
  refine Seq.val (Runs.assign rfl rfl) rfl rfl rfl ?_
  refine Seq.nil ?_
  refine Post.weak (F' := [(0, _), (1, _), (4, _)]) ⟨rfl, rfl, rfl, trivial⟩ ?_
  refine Post.then_ ?_
  refine Cd.seq ?_
  refine Cd.region ?_
  refine Seq.val (Runs.move rfl rfl) rfl rfl rfl ?_
  refine Seq.val (Runs.convI rfl rfl Try.underlying2 Try.underlying124 rfl) rfl rfl rfl ?_
  refine Seq.val (Runs.assign rfl rfl) rfl rfl rfl ?_
  refine Seq.nil ?_
  refine Post.weak (F' := [(0, _), (1, _), (4, _), (5, _)]) ⟨rfl, rfl, rfl, rfl, trivial⟩ ?_
  refine Post.then_ ?_
  refine Cd.seqJ (σ := Unit) (fun _ => [(0, .int .i64 n), (1, .int .i64 (d : Int)), (5, .int .u64 (n.natAbs : Int))]) (fun _ wr => Below w.heap.size w wr) ?_ ?_
  · skip
    refine Cd.seq ?_
    refine Cd.region ?_
    refine Seq.val (Runs.move rfl rfl) rfl rfl rfl ?_
    refine Seq.val (Runs.lss rfl rfl rfl) rfl rfl rfl ?_
    refine Seq.nil ?_
    refine Post.weak (F' := [(0, _), (1, _), (4, _), (5, _), (11, _)]) ⟨rfl, rfl, rfl, rfl, rfl, trivial⟩ ?_
    refine Post.then_ ?_
    refine Cd.condD rfl (fun hc => ?_) (fun hc => ?_)
    · skip
      refine Cd.region ?_
      refine Seq.val (Runs.move rfl rfl) rfl rfl rfl ?_
      refine Seq.val (Runs.neg rfl rfl (r := (n.natAbs : Int)) (by rw [wrap_u64, wrap_u64]; omega)) rfl rfl rfl ?_
      refine Seq.val (Runs.assign rfl rfl) rfl rfl rfl ?_
      refine Seq.nil ?_
      refine Post.weak (F' := [(0, _), (1, _), (4, _), (5, _), (11, _)]) ⟨rfl, rfl, rfl, rfl, rfl, trivial⟩ ?_
      exact Post.join () ⟨rfl, rfl, rfl, trivial⟩ bel
    · skip
      refine Cd.skip ?_
      refine Post.join () ⟨rfl, rfl, ?_, trivial⟩ bel
      refine congrArg (fun z => some (Value.int .u64 z)) ?_
      rw [wrap_u64]; omega
  clear bel
  rintro ⟨⟩ wr bel
  refine Cd.seq ?_
  refine Cd.region ?_
  refine Seq.val (Runs.assign rfl rfl) rfl rfl rfl ?_
  refine Seq.nil ?_
  refine Post.weak (F' := [(0, _), (1, _), (5, _), (6, _)]) ⟨rfl, rfl, rfl, rfl, trivial⟩ ?_
  refine Post.then_ ?_
  refine Cd.seq ?_
  refine Cd.seq ?_
  refine Cd.region ?_
  refine Seq.val (Runs.assign rfl rfl) rfl rfl rfl ?_
  refine Seq.nil ?_
  refine Post.weak (F' := [(0, _), (1, _), (5, _), (6, _), (7, _)]) ⟨rfl, rfl, rfl, rfl, rfl, trivial⟩ ?_
  refine Post.then_ ?_
  refine Cd.block ?_
  generalize hun : n.natAbs = u at *
  refine Cd.loop (σ := Nat) (fun k => [(0, .int .i64 n), (1, .int .i64 (d : Int)), (5, .int .u64 ((u / 10 ^ k : Nat) : Int)), (6, .string (strOf (prR u d k))), (7, .int .i64 (k : Int))])
    (fun k wr => k ≤ 20 ∧ Below w.heap.size w wr ∧ ∀ j, j < k → 0 < u / 10 ^ j ∨ j ≤ d) (fun k => 20 - k) 0 ⟨by omega, bel, fun j hj => absurd hj (by simp)⟩ ⟨rfl, rfl, congrArg (fun x : Nat => some (Value.int .u64 (x : Int))) (show u = u / 10 ^ 0 by simp), rfl, rfl, trivial⟩ ?_
  clear bel
  rintro k wr ⟨hk, bel, hgo⟩
  refine Cd.seq ?_
  refine Cd.seq ?_
  refine Cd.region ?_
  refine Seq.val (Runs.move rfl rfl) rfl rfl rfl ?_
  refine Seq.val (Runs.move rfl rfl) rfl rfl rfl ?_
  refine Seq.val (Runs.leq rfl rfl rfl) rfl rfl rfl ?_
  refine Seq.val (Runs.move rfl rfl) rfl rfl rfl ?_
  refine SeqC.start ?_
  refine SeqC.open rfl rfl rfl rfl rfl rfl rfl (fun hcx => Runs.move rfl rfl) ?_
  refine SeqC.next rfl rfl rfl rfl rfl rfl rfl (fun hcx => Runs.gtr rfl rfl rfl) ?_
  refine SeqC.or rfl rfl rfl rfl rfl rfl rfl ?_
  refine Seq.nil ?_
  refine Post.weak (F' := [(0, _), (1, _), (5, _), (6, _), (7, _), (20, _)]) ⟨rfl, rfl, rfl, rfl, rfl, rfl, trivial⟩ ?_
  refine Post.then_ ?_
  have hlen := prB_len u d k
  have hdk : u / 10 ^ k ≤ u := Nat.div_le_self _ _
  have hdt := div_ten u k
  have hpr : prB u d (k + 1) = prB u d k ++ (if k = d ∧ 0 < d then [46] else []) ++ [48 + u / 10 ^ k % 10] := rfl
  generalize hq : u / 10 ^ k = q at *
  refine Cd.cond rfl (fun hc => ?_) (fun hc => ?_)
  · have hgo1 : 0 < q ∨ k ≤ d := by simp at hc; omega
    have hk20 : k < 20 := by
      rcases Nat.lt_or_ge k 20 with h | h
      · exact h
      · obtain rfl : k = 20 := by omega
        have : u / 10 ^ 20 = 0 := Nat.div_eq_of_lt (by omega)
        omega
    have hgo2 : ∀ j, j < k + 1 → 0 < u / 10 ^ j ∨ j ≤ d := fun j hj => by
      rcases Nat.lt_or_ge j k with h | h
      · exact hgo j h
      · obtain rfl : j = k := by omega
        rw [hq]; exact hgo1
    refine Cd.skip ?_
    refine Post.then_ ?_
    refine Cd.seq ?_
    refine Cd.block ?_
    refine Cd.seqJ (σ := Unit) (fun _ => [(0, .int .i64 n), (1, .int .i64 (d : Int)), (5, .int .u64 (q : Int)), (6, .string (strOf ((prB u d k ++ if k = d ∧ 0 < d then [46] else []).reverse))), (7, .int .i64 (k : Int))]) (fun _ wr => Below w.heap.size w wr) ?_ ?_
    · skip
      refine Cd.seq ?_
      refine Cd.region ?_
      refine Seq.val (Runs.move rfl rfl) rfl rfl rfl ?_
      refine Seq.val (Runs.move rfl rfl) rfl rfl rfl ?_
      refine Seq.val (Runs.eqlI rfl rfl rfl) rfl rfl rfl ?_
      refine Seq.val (Runs.move rfl rfl) rfl rfl rfl ?_
      refine SeqC.start ?_
      refine SeqC.open rfl rfl rfl rfl rfl rfl rfl (fun hcx => Runs.move rfl rfl) ?_
      refine SeqC.next rfl rfl rfl rfl rfl rfl rfl (fun hcx => Runs.gtr rfl rfl rfl) ?_
      refine SeqC.and rfl rfl rfl rfl rfl rfl rfl ?_
      refine Seq.nil ?_
      refine Post.weak (F' := [(0, _), (1, _), (5, _), (6, _), (7, _), (20, _), (29, _)]) ⟨rfl, rfl, rfl, rfl, rfl, rfl, rfl, trivial⟩ ?_
      refine Post.then_ ?_
      refine Cd.cond rfl (fun hp => ?_) (fun hp => ?_)
      · rw [if_pos (by simp at hp; omega)]
        have hl1 : [46].length + (prR u d k).length ≤ 9223372036854775807 := by unfold prR; rw [List.length_reverse]; simp; omega
        refine Cd.region ?_
        refine Seq.val (Runs.move rfl rfl) rfl rfl rfl ?_
        refine Seq.val (Runs.addL (a := [46]) (b := prR u d k) rfl rfl rfl hl1) rfl rfl rfl ?_
        refine Seq.val (Runs.assign rfl rfl) rfl rfl rfl ?_
        refine Seq.nil ?_
        refine Post.weak (F' := [(0, _), (1, _), (5, _), (6, _), (7, _), (20, _), (29, _)]) ⟨rfl, rfl, rfl, rfl, rfl, rfl, rfl, trivial⟩ ?_
        exact Post.join () ⟨rfl, rfl, rfl, by rw [List.reverse_append]; rfl, rfl, trivial⟩ bel
      · rw [if_neg (by simp at hp; omega)]
        refine Cd.skip ?_
        exact Post.join () ⟨rfl, rfl, rfl, by rw [List.append_nil]; rfl, rfl, trivial⟩ bel
    clear bel hc
    rintro ⟨⟩ wr bel
    have hl2 : (prB u d k ++ if k = d ∧ 0 < d then [46] else []).length ≤ 2 * k + 1 := by rw [List.length_append]; split <;> simp <;> omega
    generalize prB u d k ++ (if k = d ∧ 0 < d then [46] else []) = pre at *
    have hl3 : [48 + q % 10].length + pre.reverse.length ≤ 9223372036854775807 := by rw [List.length_reverse]; simp; omega
    have hpr2 : prR u d (k + 1) = [48 + q % 10] ++ pre.reverse := by unfold prR; rw [hpr, List.reverse_append]; rfl
    refine Cd.seq ?_
    refine Cd.region ?_
    refine Seq.val (Runs.move rfl rfl) rfl rfl rfl ?_
    refine Seq.val (Runs.remL 10 rfl rfl rfl rfl (by omega)) rfl rfl rfl ?_
    refine Seq.val (Runs.addU rfl rfl rfl (by omega) (by omega)) rfl rfl rfl ?_
    refine Seq.val (Runs.convI rfl rfl Try.underlying124 Try.underlying5 (wrapB (by omega) (by omega))) rfl rfl rfl ?_
    refine Seq.slice (vs := [_]) (s := 1) rfl rfl rfl Try.underlying108 (by kernel_rfl) (zero_uint8) (by omega) (by omega) ⟨rfl, trivial⟩ rfl rfl rfl ?_
    intro g36 w1 n36
    have e36 := Nat.le_trans bel.size n36.ge
    replace bel := bel.step n36.below
    have k36 := n36.blk
    have hrd := Reads.blk (size := 1) k36 1 rfl
    refine Seq.val (Runs.convBS (l := [48 + q % 10]) rfl rfl Try.underlying108 Try.underlying5 Try.underlying9 hrd (fun x hx => by simp at hx; omega)) rfl rfl rfl ?_
    refine Seq.val (Runs.move rfl rfl) rfl rfl rfl ?_
    refine Seq.val (Runs.addL (a := [48 + q % 10]) (b := pre.reverse) rfl rfl rfl hl3) rfl rfl rfl ?_
    refine Seq.val (Runs.assign rfl rfl) rfl rfl rfl ?_
    refine Seq.nil ?_
    refine Post.weak (F' := [(0, _), (1, _), (5, _), (6, _), (7, _)]) ⟨rfl, rfl, rfl, rfl, rfl, trivial⟩ ?_
    refine Post.then_ ?_
    refine Cd.region ?_
    refine Seq.val (Runs.move rfl rfl) rfl rfl rfl ?_
    refine Seq.val (Runs.quoLU 10 rfl rfl rfl rfl (by omega) (by omega)) rfl rfl rfl ?_
    refine Seq.val (Runs.assign rfl rfl) rfl rfl rfl ?_
    refine Seq.nil ?_
    refine Post.weak (F' := [(0, _), (1, _), (5, _), (6, _), (7, _)]) ⟨rfl, rfl, rfl, rfl, rfl, trivial⟩ ?_
    refine Post.block_normal ?_
    refine Post.then_ ?_
    refine Cd.region ?_
    refine Seq.val (Runs.move rfl rfl) rfl rfl rfl ?_
    refine Seq.val (Runs.addI rfl rfl rfl (by omega) (by omega)) rfl rfl rfl ?_
    refine Seq.val (Runs.assign rfl rfl) rfl rfl rfl ?_
    refine Seq.nil ?_
    refine Post.weak (F' := [(0, _), (1, _), (5, _), (6, _), (7, _)]) ⟨rfl, rfl, rfl, rfl, rfl, trivial⟩ ?_
    refine Post.round (k + 1) ⟨rfl, rfl, congrArg (fun x : Nat => some (Value.int .u64 (x : Int))) hdt, ?_, rfl, trivial⟩ ⟨by omega, bel, hgo2⟩ (by omega)
    rw [hpr2]; rfl
  · have hstop : Rounds u d k := ⟨hgo, by rw [hq]; simp at hc; omega⟩
    have hl1 : [45].length + (prR u d k).length ≤ 9223372036854775807 := by unfold prR; rw [List.length_reverse]; simp; omega
    refine Cd.exit ?_
    refine Post.then_exit ?_
    refine Post.round_exit ?_
    refine Post.block_exit ?_
    refine Post.then_ ?_
    refine Cd.seq ?_
    refine Cd.seq ?_
    refine Cd.region ?_
    refine Seq.val (Runs.move rfl rfl) rfl rfl rfl ?_
    refine Seq.val (Runs.lss rfl rfl rfl) rfl rfl rfl ?_
    refine Seq.nil ?_
    refine Post.weak (F' := [(0, _), (1, _), (5, _), (6, _), (7, _), (20, _), (43, _)]) ⟨rfl, rfl, rfl, rfl, rfl, rfl, rfl, trivial⟩ ?_
    refine Post.then_ ?_
    refine Cd.condD rfl (fun hp => ?_) (fun hp => ?_)
    · have hprd : printed n d k = [45] ++ prR u d k := by unfold printed prR; rw [hun, if_pos hp, List.reverse_append]; rfl
      refine Cd.seq ?_
      refine Cd.region ?_
      refine Seq.val (Runs.move rfl rfl) rfl rfl rfl ?_
      refine Seq.val (Runs.addL (a := [45]) (b := prR u d k) rfl rfl rfl hl1) rfl rfl rfl ?_
      refine Seq.val (Runs.assign rfl rfl) rfl rfl rfl ?_
      refine Seq.nil ?_
      refine Post.weak (F' := [(0, _), (1, _), (4, _), (5, _), (6, _), (7, _), (20, _), (43, _)]) ⟨rfl, rfl, rfl, rfl, rfl, rfl, rfl, rfl, trivial⟩ ?_
      refine Post.then_ ?_
      refine Cd.ret ?_
      refine Post.then_ret ?_
      refine Post.end1 rfl rfl (.inl rfl) ?_
      exact ⟨⟨k, hstop, by omega, by rw [hprd]⟩, bel⟩
    · have hprd : printed n d k = prR u d k := by unfold printed prR; rw [hun, if_neg hp, List.append_nil]
      refine Cd.skip ?_
      refine Post.then_ ?_
      refine Cd.seq ?_
      refine Cd.region ?_
      refine Seq.val (Runs.move rfl rfl) rfl rfl rfl ?_
      refine Seq.val (Runs.assign rfl rfl) rfl rfl rfl ?_
      refine Seq.nil ?_
      refine Post.weak (F' := [(0, _), (1, _), (4, _), (5, _), (6, _), (7, _), (20, _), (43, _)]) ⟨rfl, rfl, rfl, rfl, rfl, rfl, rfl, rfl, trivial⟩ ?_
      refine Post.then_ ?_
      refine Cd.ret ?_
      refine Post.end1 rfl rfl (.inl rfl) ?_
      exact ⟨⟨k, hstop, by omega, by rw [hprd]⟩, bel⟩
end Go.Proofs.Ytijaldpmpjapiaa

namespace Go.Proofs.Ytijaldpmpjapiaa
open Go.RowKit

end Go.Proofs.Ytijaldpmpjapiaa

namespace Go.Proofs.Ytijaldpmpjapiaa
open Go.RowKit

theorem digits_any (v n : Nat) (w : World) (hv : v ≤ 100000) (hn : n ≤ 9) : Calls Try.prog 87 #[.int .i64 (v : Int), .int .i64 (n : Int)] w fun e w' => e = .returned (.string (strOf (digR v n))) ∧ Grow w w' := by
  have bel := Below.refl w.heap.size w
  refine Calls.start 23 Try.func87 rfl rfl rfl ?_
  refine Cd.seq ?_
  refine Cd.region ?_
  refine Seq.val (Runs.assign rfl rfl) rfl rfl rfl ?_
  refine Seq.nil ?_
  refine Post.weak (F' := [(0, _), (1, _), (4, _)]) ⟨rfl, rfl, rfl, trivial⟩ ?_
  refine Post.then_ ?_
  refine Cd.seq ?_
  refine Cd.region ?_
  refine Seq.val (Runs.assign rfl rfl) rfl rfl rfl ?_
  refine Seq.nil ?_
  refine Post.weak (F' := [(0, _), (1, _), (4, _), (5, _)]) ⟨rfl, rfl, rfl, rfl, trivial⟩ ?_
  refine Post.then_ ?_
  refine Cd.seq ?_
  refine Cd.seq ?_
  refine Cd.region ?_
  refine Seq.val (Runs.assign rfl rfl) rfl rfl rfl ?_
  refine Seq.nil ?_
  refine Post.weak (F' := [(0, _), (1, _), (4, _), (5, _), (6, _)]) ⟨rfl, rfl, rfl, rfl, rfl, trivial⟩ ?_
  refine Post.then_ ?_
  refine Cd.block ?_
  refine Cd.loop (σ := Nat) (fun k => [(0, .int .i64 ((v / 10 ^ k : Nat) : Int)), (1, .int .i64 (n : Int)), (5, .string (strOf (digR v k))), (6, .int .i64 (k : Int))])
    (fun k wr => k ≤ n ∧ Below w.heap.size w wr) (fun k => n - k) 0 ⟨Nat.zero_le _, bel⟩ ⟨congrArg (fun x : Nat => some (Value.int .i64 (x : Int))) (show v = v / 10 ^ 0 by simp), rfl, rfl, rfl, trivial⟩ ?_
  clear bel
  rintro k wr ⟨hk, bel⟩
  have hdk : v / 10 ^ k ≤ v := Nat.div_le_self _ _
  have hdt : v / 10 ^ k / 10 = v / 10 ^ (k + 1) := by rw [Nat.div_div_eq_div_mul, Nat.pow_succ]
  have hdr : digR v (k + 1) = (48 + v / 10 ^ k % 10) :: digR v k := rfl
  have hlen := digR_len v k
  generalize hq : v / 10 ^ k = q at *
  refine Cd.seq ?_
  refine Cd.seq ?_
  refine Cd.region ?_
  refine Seq.val (Runs.move rfl rfl) rfl rfl rfl ?_
  refine Seq.val (Runs.move rfl rfl) rfl rfl rfl ?_
  refine Seq.val (Runs.lss rfl rfl rfl) rfl rfl rfl ?_
  refine Seq.nil ?_
  refine Post.weak (F' := [(0, _), (1, _), (5, _), (6, _), (9, _)]) ⟨rfl, rfl, rfl, rfl, rfl, trivial⟩ ?_
  refine Post.then_ ?_
  refine Cd.condD rfl (fun hc => ?_) (fun hc => ?_)
  · have hl3 : [48 + q % 10].length + (digR v k).length ≤ 9223372036854775807 := by simp; omega
    have hqm : q % 10 < 10 := Nat.mod_lt _ (by omega)
    refine Cd.skip ?_
    refine Post.then_ ?_
    refine Cd.seq ?_
    refine Cd.block ?_
    refine Cd.seq ?_
    refine Cd.region ?_
    refine Seq.val (Runs.move rfl rfl) rfl rfl rfl ?_
    refine Seq.val (Runs.remN rfl rfl rfl (by omega) (by omega)) rfl rfl rfl ?_
    refine Seq.val (Runs.addI rfl rfl rfl (by omega) (by omega)) rfl rfl rfl ?_
    refine Seq.val (Runs.convI rfl rfl Try.underlying3 Try.underlying5 (wrapB (by omega) (by omega))) rfl rfl rfl ?_
    refine Seq.slice (vs := [_]) (s := 1) rfl rfl rfl Try.underlying108 (by kernel_rfl) (zero_uint8) (by omega) (by omega) ⟨rfl, trivial⟩ rfl rfl rfl ?_
    intro g16 w1 n16
    have e16 := Nat.le_trans bel.size n16.ge
    replace bel := bel.step n16.below
    have k16 := n16.blk
    rw [show (48 + (q : Int) % 10) = ((48 + q % 10 : Nat) : Int) by omega] at k16
    have hrd := Reads.blk (size := 1) k16 1 rfl
    refine Seq.val (Runs.convBS (l := [48 + q % 10]) rfl rfl Try.underlying108 Try.underlying5 Try.underlying9 hrd (fun x hx => by simp at hx; omega)) rfl rfl rfl ?_
    refine Seq.val (Runs.move rfl rfl) rfl rfl rfl ?_
    refine Seq.val (Runs.addL (a := [48 + q % 10]) (b := digR v k) rfl rfl rfl hl3) rfl rfl rfl ?_
    refine Seq.val (Runs.assign rfl rfl) rfl rfl rfl ?_
    refine Seq.nil ?_
    refine Post.weak (F' := [(0, _), (1, _), (5, _), (6, _), (9, _)]) ⟨rfl, rfl, rfl, rfl, rfl, trivial⟩ ?_
    refine Post.then_ ?_
    refine Cd.region ?_
    refine Seq.val (Runs.move rfl rfl) rfl rfl rfl ?_
    refine Seq.val (Runs.quoI rfl rfl rfl (by omega) (by omega) (by omega)) rfl rfl rfl ?_
    refine Seq.val (Runs.assign rfl rfl) rfl rfl rfl ?_
    refine Seq.nil ?_
    refine Post.weak (F' := [(0, _), (1, _), (5, _), (6, _), (9, _)]) ⟨rfl, rfl, rfl, rfl, rfl, trivial⟩ ?_
    refine Post.block_normal ?_
    refine Post.then_ ?_
    refine Cd.region ?_
    refine Seq.val (Runs.move rfl rfl) rfl rfl rfl ?_
    refine Seq.val (Runs.addI rfl rfl rfl (by omega) (by omega)) rfl rfl rfl ?_
    refine Seq.val (Runs.assign rfl rfl) rfl rfl rfl ?_
    refine Seq.nil ?_
    refine Post.weak (F' := [(0, _), (1, _), (5, _), (6, _), (9, _)]) ⟨rfl, rfl, rfl, rfl, rfl, trivial⟩ ?_
    refine Post.round (k + 1) ⟨congrArg (fun x : Int => some (Value.int .i64 x)) (by rw [← hdt]; omega), rfl, by rw [hdr]; rfl, rfl, trivial⟩ ⟨by omega, bel⟩ (by omega)
  · obtain rfl : k = n := by omega
    refine Cd.exit ?_
    refine Post.then_exit ?_
    refine Post.round_exit ?_
    refine Post.block_exit ?_
    refine Post.then_ ?_
    refine Cd.seq ?_
    refine Cd.region ?_
    refine Seq.val (Runs.move rfl rfl) rfl rfl rfl ?_
    refine Seq.val (Runs.assign rfl rfl) rfl rfl rfl ?_
    refine Seq.nil ?_
    refine Post.weak (F' := [(0, _), (1, _), (4, _), (5, _), (6, _), (9, _)]) ⟨rfl, rfl, rfl, rfl, rfl, rfl, trivial⟩ ?_
    refine Post.then_ ?_
    refine Cd.ret ?_
    refine Post.end1 rfl rfl (.inl rfl) ?_
    exact ⟨rfl, bel⟩
theorem refDayPrint_any (y m d : Int) (w : World) (hok : ofOk y m d = true) : Calls Try.prog 47 #[.int .i64 (ofZ y m d)] w fun e w' => e = .returned (.string (strOf (printD y.toNat m.toNat d.toNat))) ∧ Grow w w' := by
  have bel := Below.refl w.heap.size w
  obtain ⟨o1, o2, o3, o4, o5, o6⟩ := ofOk_bd hok
  have ey : y = (y.toNat : Int) := by omega
  have em : m = (m.toNat : Int) := by omega
  have ed : d = (d.toNat : Int) := by omega
  have hciv := fun W => refCivil_any y m d W hok
  have hy2 : y.toNat ≤ 9999 := by omega
  have hm2 : m.toNat ≤ 12 := by omega
  have hd2 : d.toNat ≤ 31 := by omega
  have hy1 : 1970 ≤ y.toNat := by omega
  generalize ofZ y m d = n at *
  refine Calls.start 24 Try.func47 rfl rfl rfl ?_
  refine Cd.seq ?_
  refine Cd.region ?_
  refine Seq.val (Runs.assign rfl rfl) rfl rfl rfl ?_
  refine Seq.nil ?_
  refine Post.weak (F' := [(0, _), (2, _)]) ⟨rfl, rfl, trivial⟩ ?_
  refine Post.then_ ?_
  refine Cd.seq ?_
  refine Cd.region ?_
  refine Seq.val (Runs.move rfl rfl) rfl rfl rfl ?_
  refine Seq.call (Enters.func rfl rfl rfl (run_enter Try.func86 (by kernel_rfl) rfl)) rfl rfl rfl (hciv _) ?_
  rintro e w8 ⟨rfl, hb8⟩
  refine ⟨_, rfl, ?_⟩
  replace bel := bel.step hb8
  rw [ey, em, ed]
  generalize y.toNat = Y at *
  generalize m.toNat = M at *
  generalize d.toNat = D at *
  simp only [Int.toNat_natCast]
  refine Seq.val (Runs.move rfl rfl) rfl rfl rfl ?_
  refine Seq.val (Runs.extract rfl rfl rfl) rfl rfl rfl ?_
  refine Seq.val (Runs.extract rfl rfl rfl) rfl rfl rfl ?_
  refine Seq.val (Runs.extract rfl rfl rfl) rfl rfl rfl ?_
  refine Seq.val (Runs.assign rfl rfl) rfl rfl rfl ?_
  refine Seq.val (Runs.assign rfl rfl) rfl rfl rfl ?_
  refine Seq.val (Runs.assign rfl rfl) rfl rfl rfl ?_
  refine Seq.nil ?_
  refine Post.weak (F' := [(0, _), (2, _), (3, _), (4, _), (5, _)]) ⟨rfl, rfl, rfl, rfl, rfl, trivial⟩ ?_
  refine Post.then_ ?_
  refine Cd.seq ?_
  refine Cd.seq ?_
  refine Cd.region ?_
  refine Seq.val (Runs.move rfl rfl) rfl rfl rfl ?_
  refine Seq.val (Runs.eqlI rfl rfl rfl) rfl rfl rfl ?_
  refine Seq.nil ?_
  refine Post.weak (F' := [(0, _), (2, _), (3, _), (4, _), (5, _), (13, _)]) ⟨rfl, rfl, rfl, rfl, rfl, rfl, trivial⟩ ?_
  refine Post.then_ ?_
  refine Cd.condF rfl (decide_eq_false (by omega)) ?_
  refine Cd.skip ?_
  refine Post.then_ ?_
  refine Cd.seq ?_
  refine Cd.region ?_
  refine Seq.val (Runs.move rfl rfl) rfl rfl rfl ?_
  refine Seq.call (Enters.func rfl rfl rfl (run_enter Try.func87 (by kernel_rfl) rfl)) rfl rfl rfl (digits_any Y 4 _ (by omega) (by omega)) ?_
  rintro e w9 ⟨rfl, hb9⟩
  refine ⟨_, rfl, ?_⟩
  replace bel := bel.step hb9
  refine Seq.val (Runs.addL (a := digR Y 4) (b := [45]) rfl rfl rfl (by rw [digR_len]; simp)) rfl rfl rfl ?_
  refine Seq.val (Runs.move rfl rfl) rfl rfl rfl ?_
  refine Seq.call (Enters.func rfl rfl rfl (run_enter Try.func87 (by kernel_rfl) rfl)) rfl rfl rfl (digits_any M 2 _ (by omega) (by omega)) ?_
  rintro e w10 ⟨rfl, hb10⟩
  refine ⟨_, rfl, ?_⟩
  replace bel := bel.step hb10
  refine Seq.val (Runs.addL (a := digR Y 4 ++ [45]) (b := digR M 2) rfl rfl rfl (by rw [List.length_append, digR_len, digR_len]; simp)) rfl rfl rfl ?_
  refine Seq.val (Runs.addL (a := digR Y 4 ++ [45] ++ digR M 2) (b := [45]) rfl rfl rfl (by rw [List.length_append, List.length_append, digR_len, digR_len]; simp)) rfl rfl rfl ?_
  refine Seq.val (Runs.move rfl rfl) rfl rfl rfl ?_
  refine Seq.call (Enters.func rfl rfl rfl (run_enter Try.func87 (by kernel_rfl) rfl)) rfl rfl rfl (digits_any D 2 _ (by omega) (by omega)) ?_
  rintro e w11 ⟨rfl, hb11⟩
  refine ⟨_, rfl, ?_⟩
  replace bel := bel.step hb11
  refine Seq.val (Runs.addL (a := digR Y 4 ++ [45] ++ digR M 2 ++ [45]) (b := digR D 2) rfl rfl rfl (by rw [List.length_append, List.length_append, List.length_append, digR_len, digR_len, digR_len]; simp)) rfl rfl rfl ?_
  refine Seq.val (Runs.assign rfl rfl) rfl rfl rfl ?_
  refine Seq.nil ?_
  refine Post.weak (F' := [(0, _), (2, _), (3, _), (4, _), (5, _), (13, _)]) ⟨rfl, rfl, rfl, rfl, rfl, rfl, trivial⟩ ?_
  refine Post.then_ ?_
  refine Cd.ret ?_
  refine Post.end1 rfl rfl (.inl rfl) ?_
  exact ⟨rfl, bel⟩
theorem printD_lt (y m d : Nat) : ∀ x ∈ printD y m d, x < 256 := by
  intro x hx
  unfold printD at hx
  simp only [List.mem_append] at hx
  rcases hx with (((h | h) | h) | h) | h
  · exact digR_lt _ _ x h
  · simp at h; omega
  · exact digR_lt _ _ x h
  · simp at h; omega
  · exact digR_lt _ _ x h

/-- The numbers behind so many bytes. -/
def idxD (k : Nat) : Nat := if 7 < k then 2 else if 4 < k then 1 else 0
def rawS (l : List Nat) : Nat → List Int
  | 0 => [0, 0, 0]
  | k + 1 => if k = 4 ∨ k = 7 then rawS l k else (rawS l k).set (idxD k) (10 * (rawS l k).getD (idxD k) 0 + (l.getD k 0 : Int) - 48)
end Go.Proofs.Ytijaldpmpjapiaa

namespace Go.Proofs.Ytijaldpmpjapiaa
open Go.RowKit

section
variable {P : Program} {n : Nat} {F : List (Nat × Value)} {w : World} {v : Value}
theorem Post.end4 {fn : Func} {R : Ending → World → Prop} {t u s r : Nat} {v' v'' v3 : Value} {e : Exit} (hr : fn.results = #[.tmp t, .tmp u, .tmp s, .tmp r]) (hl : look F t = some v) (hl' : look F u = some v') (hl'' : look F s = some v'') (hl3 : look F r = some v3) (he : e = .ret ∨ e = .normal) (h : R (.returned (.tuple #[v, v', v'', v3])) w) : Post (bodyPost P fn R) e n F w :=
  Post.end_ (fun a ha => by simp [results, hr, ha.slot t v hl, ha.slot u v' hl', ha.slot s v'' hl'', ha.slot r v3 hl3]) he h
end
theorem ret4 {x x' y y' z z' u u' : Value} (h : x = x') (h2 : y = y') (h3 : z = z') (h4 : u = u') : Ending.returned (.tuple #[x, y, z, u]) = .returned (.tuple #[x', y', z', u']) := by rw [h, h2, h3, h4]
/-- A slice literal is the call's own. -/
theorem Own.lit {w : World} {B g n size : Nat} {e : TypeId} {cs : Array Value} (k : Blk w g e cs) (hB : B ≤ g) (hs : cs.size = n * size) (hn : n ≤ maxLen) : Own w B e size (.slice (some ⟨g, 0, none⟩) n n) n cs.toList :=
  ⟨⟨by simpa using hs, .inr ⟨g, n, cs, rfl, hB, k, Nat.le_refl _, hn, hs, List.take_of_length_le (by simp [hs])⟩⟩⟩
theorem bt_one (l : List Nat) : ∀ u ∈ Bt l, u.oneCell' = true := by
  intro u hu
  simp [Bt] at hu
  obtain ⟨d, -, rfl⟩ := hu
  rfl
theorem Own.base {w : World} {B B' size n : Nat} {e : TypeId} {v : Value} {xs : List Value} (h : Own w B e size v n xs) (hb : B' ≤ B) : Own w B' e size v n xs := ⟨⟨h.row.1, h.row.2.imp id fun ⟨g, cap, cur, e1, e2, r⟩ => ⟨g, cap, cur, e1, Nat.le_trans hb e2, r⟩⟩⟩
theorem dateIs_any (n : Nat) (w : World) (h : n ≤ 2932896) : Calls Try.prog 158 #[.int .i64 (n : Int)] w fun e w' => e = .returned (.bool true) ∧ Grow w w' := by
  have bel := Below.refl w.heap.size w
  refine Calls.start 9 Try.func158 rfl rfl rfl ?_
  refine Cd.seq ?_
  refine Cd.region ?_
  refine Seq.val (Runs.assign rfl rfl) rfl rfl rfl ?_
  refine Seq.nil ?_
  refine Post.weak (F' := [(0, _), (2, _)]) ⟨rfl, rfl, trivial⟩ ?_
  refine Post.then_ ?_
  refine Cd.seq ?_
  refine Cd.region ?_
  refine Seq.val (Runs.move rfl rfl) rfl rfl rfl ?_
  refine Seq.val (Runs.geq rfl rfl rfl) rfl rfl rfl ?_
  refine Seq.val (Runs.move rfl rfl) rfl rfl rfl ?_
  refine SeqC.start ?_
  refine SeqC.open rfl rfl rfl rfl rfl rfl rfl (fun hcx => Runs.move rfl rfl) ?_
  refine SeqC.next rfl rfl rfl rfl rfl rfl rfl (fun hcx => Runs.leq rfl rfl rfl) ?_
  refine SeqC.and rfl rfl rfl rfl rfl rfl rfl ?_
  refine Seq.val (Runs.assign rfl rfl) rfl rfl rfl ?_
  refine Seq.nil ?_
  refine Post.weak (F' := [(0, _), (2, _)]) ⟨rfl, rfl, trivial⟩ ?_
  refine Post.then_ ?_
  refine Cd.ret ?_
  refine Post.end1 rfl rfl (.inl rfl) ?_
  exact ⟨ret1 (bool_eq (by simp; omega)), bel⟩
theorem yT_int (e : Nat) (he : e < 146097) : (yT e : Int) = e - (365 * (eraY e : Int) + (eraY e : Int) / 4 - (eraY e : Int) / 100) ∧ yT e < 366 := by
  obtain ⟨h1, h2, h3⟩ := era_of e he
  obtain ⟨l1, l2⟩ := eraS_leap (eraY e)
  have := eraS_int (eraY e) h1
  unfold yT
  omega
theorem mT_int (e : Nat) (he : e < 146097) : (mT e : Int) = (5 * (yT e : Int) + 2) / 153 ∧ mT e ≤ 11 ∧ (153 * mT e + 2) / 5 ≤ yT e := by
  have h := (yT_int e he).2
  obtain ⟨m1, m2, -⟩ := month_table (yT e) h
  have hm : mT e = (5 * yT e + 2) / 153 := rfl
  rw [← hm] at m1 m2
  omega
theorem civil_any (n q e : Nat) (w : World) (h : n ≤ 2932896) (hq : (n + 719468) / 146097 = q) (he : (n + 719468) % 146097 = e) : Calls Try.prog 131 #[.int .i64 (n : Int)] w fun en w' => en = .returned (.tuple #[.int .i64 (cY q e : Int), .int .i64 (cM e : Int), .int .i64 (dT e : Int), .bool true]) ∧ Grow w w' := by
  have bel := Below.refl w.heap.size w
  have hel : e < 146097 := by rw [← he]; exact Nat.mod_lt _ (by decide)
  have hq2 : ((n : Int) + 719468) / 146097 = (q : Int) := by omega
  have he2 : ((n : Int) + 719468) % 146097 = (e : Int) := by omega
  have hq3 : q ≤ 30 := by omega
  obtain ⟨e1, e2, e3⟩ := era_of e hel
  obtain ⟨y1, y2⟩ := yT_int e hel
  obtain ⟨m1, m2, m3⟩ := mT_int e hel
  have hd : dT e = yT e - (153 * mT e + 2) / 5 + 1 := rfl
  have hy : ((e : Int) - (e : Int) / 1460 + (e : Int) / 36524 - (e : Int) / 146096) / 365 = (eraY e : Int) := by unfold eraY; omega
  have hcY : cY q e = if 10 ≤ mT e then q * 400 + eraY e + 1 else q * 400 + eraY e := rfl
  have hcM : cM e = if 10 ≤ mT e then mT e - 9 else mT e + 3 := rfl
  generalize cY q e = cy at *
  generalize cM e = cm at *
  generalize dT e = dd at *
  generalize mT e = m at *
  generalize yT e = t at *
  generalize eraY e = y at *
  clear hq he e2 e3
  refine Calls.start 68 Try.func131 rfl rfl rfl ?_
  refine Cd.seq ?_
  refine Cd.region ?_
  refine Seq.val (Runs.assign rfl rfl) rfl rfl rfl ?_
  refine Seq.val (Runs.assign rfl rfl) rfl rfl rfl ?_
  refine Seq.val (Runs.assign rfl rfl) rfl rfl rfl ?_
  refine Seq.val (Runs.assign rfl rfl) rfl rfl rfl ?_
  refine Seq.nil ?_
  refine Post.weak (F' := [(0, _), (2, _), (3, _), (4, _), (5, _)]) ⟨rfl, rfl, rfl, rfl, rfl, trivial⟩ ?_
  refine Post.then_ ?_
  refine Cd.seq ?_
  refine Cd.seq ?_
  refine Cd.region ?_
  refine Seq.val (Runs.move rfl rfl) rfl rfl rfl ?_
  refine Seq.call (Enters.func rfl rfl rfl (run_enter Try.func158 (by kernel_rfl) rfl)) rfl rfl rfl (dateIs_any n _ h) ?_
  rintro en w5 ⟨rfl, hb5⟩
  refine ⟨_, rfl, ?_⟩
  replace bel := bel.step hb5
  refine Seq.val (Runs.not rfl rfl) rfl rfl rfl ?_
  refine Seq.nil ?_
  refine Post.weak (F' := [(0, _), (2, _), (3, _), (4, _), (5, _), (15, _)]) ⟨rfl, rfl, rfl, rfl, rfl, rfl, trivial⟩ ?_
  refine Post.then_ ?_
  refine Cd.condF rfl rfl ?_
  refine Cd.skip ?_
  refine Post.then_ ?_
  refine Cd.seq ?_
  refine Cd.region ?_
  refine Seq.val (Runs.move rfl rfl) rfl rfl rfl ?_
  refine Seq.val (Runs.addI rfl rfl rfl (by omega) (by omega)) rfl rfl rfl ?_
  refine Seq.val (Runs.assign rfl rfl) rfl rfl rfl ?_
  refine Seq.nil ?_
  refine Post.weak (F' := [(0, _), (2, _), (3, _), (4, _), (5, _), (6, _), (15, _)]) ⟨rfl, rfl, rfl, rfl, rfl, rfl, rfl, trivial⟩ ?_
  refine Post.then_ ?_
  refine Cd.seq ?_
  refine Cd.region ?_
  refine Seq.val (Runs.move rfl rfl) rfl rfl rfl ?_
  refine Seq.val ((Runs.remN rfl rfl rfl (by omega) (by omega)).cast (v' := .int .i64 (e : Int)) (int_eq he2)) rfl rfl rfl ?_
  refine Seq.val (Runs.assign rfl rfl) rfl rfl rfl ?_
  refine Seq.nil ?_
  refine Post.weak (F' := [(0, _), (2, _), (3, _), (4, _), (5, _), (6, _), (7, _), (15, _)]) ⟨rfl, rfl, rfl, rfl, rfl, rfl, rfl, rfl, trivial⟩ ?_
  refine Post.then_ ?_
  refine Cd.seq ?_
  refine Cd.region ?_
  refine Seq.val (Runs.move rfl rfl) rfl rfl rfl ?_
  refine Seq.val (Runs.move rfl rfl) rfl rfl rfl ?_
  refine Seq.val (Runs.quoI rfl rfl rfl (by omega) (by omega) (by omega)) rfl rfl rfl ?_
  refine Seq.val (Runs.subI rfl rfl rfl (by omega) (by omega)) rfl rfl rfl ?_
  refine Seq.val (Runs.move rfl rfl) rfl rfl rfl ?_
  refine Seq.val (Runs.quoI rfl rfl rfl (by omega) (by omega) (by omega)) rfl rfl rfl ?_
  refine Seq.val (Runs.addI rfl rfl rfl (by omega) (by omega)) rfl rfl rfl ?_
  refine Seq.val (Runs.move rfl rfl) rfl rfl rfl ?_
  refine Seq.val (Runs.quoI rfl rfl rfl (by omega) (by omega) (by omega)) rfl rfl rfl ?_
  refine Seq.val (Runs.subI rfl rfl rfl (by omega) (by omega)) rfl rfl rfl ?_
  refine Seq.val ((Runs.quoI rfl rfl rfl (by omega) (by omega) (by omega)).cast (v' := .int .i64 (y : Int)) (int_eq hy)) rfl rfl rfl ?_
  refine Seq.val (Runs.assign rfl rfl) rfl rfl rfl ?_
  refine Seq.nil ?_
  refine Post.weak (F' := [(0, _), (2, _), (3, _), (4, _), (5, _), (6, _), (7, _), (8, _), (15, _)]) ⟨rfl, rfl, rfl, rfl, rfl, rfl, rfl, rfl, rfl, trivial⟩ ?_
  refine Post.then_ ?_
  refine Cd.seq ?_
  refine Cd.region ?_
  refine Seq.val (Runs.move rfl rfl) rfl rfl rfl ?_
  refine Seq.val (Runs.move rfl rfl) rfl rfl rfl ?_
  refine Seq.val (Runs.mulI rfl rfl rfl (by omega) (by omega)) rfl rfl rfl ?_
  refine Seq.val (Runs.move rfl rfl) rfl rfl rfl ?_
  refine Seq.val (Runs.quoI rfl rfl rfl (by omega) (by omega) (by omega)) rfl rfl rfl ?_
  refine Seq.val (Runs.addI rfl rfl rfl (by omega) (by omega)) rfl rfl rfl ?_
  refine Seq.val (Runs.move rfl rfl) rfl rfl rfl ?_
  refine Seq.val (Runs.quoI rfl rfl rfl (by omega) (by omega) (by omega)) rfl rfl rfl ?_
  refine Seq.val (Runs.subI rfl rfl rfl (by omega) (by omega)) rfl rfl rfl ?_
  refine Seq.val ((Runs.subI rfl rfl rfl (by omega) (by omega)).cast (v' := .int .i64 (t : Int)) (int_eq (by omega))) rfl rfl rfl ?_
  refine Seq.val (Runs.assign rfl rfl) rfl rfl rfl ?_
  refine Seq.nil ?_
  refine Post.weak (F' := [(0, _), (2, _), (3, _), (4, _), (5, _), (6, _), (7, _), (8, _), (9, _), (15, _)]) ⟨rfl, rfl, rfl, rfl, rfl, rfl, rfl, rfl, rfl, rfl, trivial⟩ ?_
  refine Post.then_ ?_
  refine Cd.seq ?_
  refine Cd.region ?_
  refine Seq.val (Runs.move rfl rfl) rfl rfl rfl ?_
  refine Seq.val (Runs.mulI rfl rfl rfl (by omega) (by omega)) rfl rfl rfl ?_
  refine Seq.val (Runs.addI rfl rfl rfl (by omega) (by omega)) rfl rfl rfl ?_
  refine Seq.val ((Runs.quoI rfl rfl rfl (by omega) (by omega) (by omega)).cast (v' := .int .i64 (m : Int)) (int_eq (by omega))) rfl rfl rfl ?_
  refine Seq.val (Runs.assign rfl rfl) rfl rfl rfl ?_
  refine Seq.nil ?_
  refine Post.weak (F' := [(0, _), (2, _), (3, _), (4, _), (5, _), (6, _), (7, _), (8, _), (9, _), (10, _), (15, _)]) ⟨rfl, rfl, rfl, rfl, rfl, rfl, rfl, rfl, rfl, rfl, rfl, trivial⟩ ?_
  refine Post.then_ ?_
  refine Cd.seq ?_
  refine Cd.region ?_
  refine Seq.val (Runs.move rfl rfl) rfl rfl rfl ?_
  refine Seq.val (Runs.move rfl rfl) rfl rfl rfl ?_
  refine Seq.val (Runs.mulI rfl rfl rfl (by omega) (by omega)) rfl rfl rfl ?_
  refine Seq.val (Runs.addI rfl rfl rfl (by omega) (by omega)) rfl rfl rfl ?_
  refine Seq.val (Runs.quoI rfl rfl rfl (by omega) (by omega) (by omega)) rfl rfl rfl ?_
  refine Seq.val (Runs.subI rfl rfl rfl (by omega) (by omega)) rfl rfl rfl ?_
  refine Seq.val ((Runs.addI rfl rfl rfl (by omega) (by omega)).cast (v' := .int .i64 (dd : Int)) (int_eq (by omega))) rfl rfl rfl ?_
  refine Seq.val (Runs.assign rfl rfl) rfl rfl rfl ?_
  refine Seq.nil ?_
  refine Post.weak (F' := [(0, _), (2, _), (3, _), (4, _), (5, _), (6, _), (7, _), (8, _), (9, _), (10, _), (11, _), (15, _)]) ⟨rfl, rfl, rfl, rfl, rfl, rfl, rfl, rfl, rfl, rfl, rfl, rfl, trivial⟩ ?_
  refine Post.then_ ?_
  refine Cd.seq ?_
  refine Cd.region ?_
  refine Seq.val (Runs.move rfl rfl) rfl rfl rfl ?_
  refine Seq.val ((Runs.quoI rfl rfl rfl (by omega) (by omega) (by omega)).cast (v' := .int .i64 (q : Int)) (int_eq hq2)) rfl rfl rfl ?_
  refine Seq.val (Runs.mulI rfl rfl rfl (by omega) (by omega)) rfl rfl rfl ?_
  refine Seq.val (Runs.move rfl rfl) rfl rfl rfl ?_
  refine Seq.val (Runs.addI rfl rfl rfl (by omega) (by omega)) rfl rfl rfl ?_
  refine Seq.val (Runs.assign rfl rfl) rfl rfl rfl ?_
  refine Seq.nil ?_
  refine Post.weak (F' := [(0, _), (2, _), (3, _), (4, _), (5, _), (6, _), (7, _), (8, _), (9, _), (10, _), (11, _), (12, _), (15, _)]) ⟨rfl, rfl, rfl, rfl, rfl, rfl, rfl, rfl, rfl, rfl, rfl, rfl, rfl, trivial⟩ ?_
  refine Post.then_ ?_
  refine Cd.seq ?_
  refine Cd.seq ?_
  refine Cd.region ?_
  refine Seq.val (Runs.move rfl rfl) rfl rfl rfl ?_
  refine Seq.val (Runs.geq rfl rfl rfl) rfl rfl rfl ?_
  refine Seq.nil ?_
  refine Post.weak (F' := [(0, _), (2, _), (3, _), (4, _), (5, _), (6, _), (7, _), (8, _), (9, _), (10, _), (11, _), (12, _), (15, _), (58, _)]) ⟨rfl, rfl, rfl, rfl, rfl, rfl, rfl, rfl, rfl, rfl, rfl, rfl, rfl, rfl, trivial⟩ ?_
  refine Post.then_ ?_
  refine Cd.condD rfl (fun hc => ?_) (fun hc => ?_)
  · rw [if_pos (by omega)] at hcY hcM
    subst hcY hcM
    refine Cd.seq ?_
    refine Cd.region ?_
    refine Seq.val (Runs.move rfl rfl) rfl rfl rfl ?_
    refine Seq.val (Runs.addI rfl rfl rfl (by omega) (by omega)) rfl rfl rfl ?_
    refine Seq.val (Runs.move rfl rfl) rfl rfl rfl ?_
    refine Seq.val (Runs.subI rfl rfl rfl (by omega) (by omega)) rfl rfl rfl ?_
    refine Seq.val (Runs.move rfl rfl) rfl rfl rfl ?_
    refine Seq.val (Runs.assign rfl rfl) rfl rfl rfl ?_
    refine Seq.val (Runs.assign rfl rfl) rfl rfl rfl ?_
    refine Seq.val (Runs.assign rfl rfl) rfl rfl rfl ?_
    refine Seq.val (Runs.assign rfl rfl) rfl rfl rfl ?_
    refine Seq.nil ?_
    refine Post.weak (F' := [(0, _), (2, _), (3, _), (4, _), (5, _), (6, _), (7, _), (8, _), (9, _), (10, _), (11, _), (12, _), (15, _), (58, _)]) ⟨rfl, rfl, rfl, rfl, rfl, rfl, rfl, rfl, rfl, rfl, rfl, rfl, rfl, rfl, trivial⟩ ?_
    refine Post.then_ ?_
    refine Cd.ret ?_
    refine Post.then_ret ?_
    refine Post.end4 rfl rfl rfl rfl rfl (.inl rfl) ?_
    exact ⟨ret4 (int_eq (by omega)) (int_eq (by omega)) rfl rfl, bel⟩
  · rw [if_neg (by omega)] at hcY hcM
    subst hcY hcM
    refine Cd.skip ?_
    refine Post.then_ ?_
    refine Cd.seq ?_
    refine Cd.region ?_
    refine Seq.val (Runs.move rfl rfl) rfl rfl rfl ?_
    refine Seq.val (Runs.move rfl rfl) rfl rfl rfl ?_
    refine Seq.val (Runs.addI rfl rfl rfl (by omega) (by omega)) rfl rfl rfl ?_
    refine Seq.val (Runs.move rfl rfl) rfl rfl rfl ?_
    refine Seq.val (Runs.assign rfl rfl) rfl rfl rfl ?_
    refine Seq.val (Runs.assign rfl rfl) rfl rfl rfl ?_
    refine Seq.val (Runs.assign rfl rfl) rfl rfl rfl ?_
    refine Seq.val (Runs.assign rfl rfl) rfl rfl rfl ?_
    refine Seq.nil ?_
    refine Post.weak (F' := [(0, _), (2, _), (3, _), (4, _), (5, _), (6, _), (7, _), (8, _), (9, _), (10, _), (11, _), (12, _), (15, _), (58, _)]) ⟨rfl, rfl, rfl, rfl, rfl, rfl, rfl, rfl, rfl, rfl, rfl, rfl, rfl, rfl, trivial⟩ ?_
    refine Post.then_ ?_
    refine Cd.ret ?_
    refine Post.end4 rfl rfl rfl rfl rfl (.inl rfl) ?_
    exact ⟨ret4 (int_eq (by omega)) (int_eq (by omega)) rfl rfl, bel⟩
theorem two_any (v : Nat) (w : World) (h : v ≤ 100000) : Calls Try.prog 132 #[.int .i64 (v : Int)] w fun en w' => (∃ sv, en = .returned sv ∧ Own w' w.heap.size 5 1 sv 2 (Bt [48 + v / 10 % 10, 48 + v % 10])) ∧ Grow w w' := by
  have bel := Below.refl w.heap.size w
  refine Calls.start 13 Try.func132 rfl rfl rfl ?_
  refine Cd.seq ?_
  refine Cd.region ?_
  refine Seq.val (Runs.assign rfl rfl) rfl rfl rfl ?_
  refine Seq.nil ?_
  refine Post.weak (F' := [(0, _), (2, _)]) ⟨rfl, rfl, trivial⟩ ?_
  refine Post.then_ ?_
  refine Cd.seq ?_
  refine Cd.region ?_
  refine Seq.val (Runs.move rfl rfl) rfl rfl rfl ?_
  refine Seq.val (Runs.quoI rfl rfl rfl (by omega) (by omega) (by omega)) rfl rfl rfl ?_
  refine Seq.val (Runs.remN rfl rfl rfl (by omega) (by omega)) rfl rfl rfl ?_
  refine Seq.val (Runs.addI rfl rfl rfl (by omega) (by omega)) rfl rfl rfl ?_
  refine Seq.val (Runs.convI rfl rfl Try.underlying3 Try.underlying5 (wrapB (by omega) (by omega))) rfl rfl rfl ?_
  refine Seq.val (Runs.move rfl rfl) rfl rfl rfl ?_
  refine Seq.val (Runs.remN rfl rfl rfl (by omega) (by omega)) rfl rfl rfl ?_
  refine Seq.val (Runs.addI rfl rfl rfl (by omega) (by omega)) rfl rfl rfl ?_
  refine Seq.val (Runs.convI rfl rfl Try.underlying3 Try.underlying5 (wrapB (by omega) (by omega))) rfl rfl rfl ?_
  refine Seq.slice (vs := [_, _]) (s := 1) rfl rfl rfl Try.underlying108 (by kernel_rfl) (zero_uint8) (by omega) (by omega) ⟨rfl, rfl, trivial⟩ rfl rfl rfl ?_
  intro g12 w1 n12
  have e12 := Nat.le_trans bel.size n12.ge
  replace bel := bel.step n12.below
  have k12 := n12.blk
  refine Seq.val (Runs.assign rfl rfl) rfl rfl rfl ?_
  refine Seq.nil ?_
  refine Post.weak (F' := [(0, _), (2, _)]) ⟨rfl, rfl, trivial⟩ ?_
  refine Post.then_ ?_
  refine Cd.ret ?_
  refine Post.end1 rfl rfl (.inl rfl) ?_
  have hc : (flatC [.int .u8 (48 + (v : Int) / 10 % 10), .int .u8 (48 + (v : Int) % 10)]).toArray = (Bt [48 + v / 10 % 10, 48 + v % 10]).toArray := by
    simp [flatC, Value.cells, Bt]
  rw [hc] at k12
  exact ⟨⟨_, rfl, Own.lit k12 e12 (by simp [Bt]) (by simp [maxLen])⟩, bel⟩
theorem eg_two : ∀ args w, (callFunc 132 args).run Try.prog w = .ok (.enter 132 args) w := fun args w => run_enter Try.func132 (by kernel_rfl) rfl args w
theorem digR_two (v : Nat) : digR v 2 = [48 + v / 10 % 10, 48 + v % 10] := by simp [digR]
theorem digR_four (v : Nat) : digR v 4 = [48 + v / 100 / 10 % 10, 48 + v / 100 % 10] ++ [48 + v / 10 % 10, 48 + v % 10] := by
  simp [digR, Nat.div_div_eq_div_mul]
theorem dayPrint_any (n : Nat) (w : World) (h : n ≤ 2932896) : Calls Try.prog 83 #[.int .i64 (n : Int)] w fun en w' => en = .returned (.string (strOf (dayT n))) ∧ Grow w w' := by
  have bel := Below.refl w.heap.size w
  obtain ⟨q, hq⟩ : ∃ q, (n + 719468) / 146097 = q := ⟨_, rfl⟩
  obtain ⟨e, he⟩ : ∃ e, (n + 719468) % 146097 = e := ⟨_, rfl⟩
  have hciv := fun W => civil_any n q e W h hq he
  have hel : e < 146097 := by rw [← he]; exact Nat.mod_lt _ (by decide)
  obtain ⟨z1, z2, z3, z4, z5⟩ := civ_qe n q e (by omega) hel
  have hok := ofOk_of n _ _ _ h z1 z2 z3 z4 z5
  obtain ⟨o1, o2, o3, o4, o5, o6⟩ := ofOk_bd hok
  rw [dayT_of n q e hq he]
  generalize cY q e = y at *
  generalize cM e = m at *
  generalize dT e = d at *
  clear hq he z1
  refine Calls.start 42 Try.func83 rfl rfl rfl ?_
  refine Cd.seq ?_
  refine Cd.region ?_
  refine Seq.val (Runs.assign rfl rfl) rfl rfl rfl ?_
  refine Seq.nil ?_
  refine Post.weak (F' := [(0, _), (2, _)]) ⟨rfl, rfl, trivial⟩ ?_
  refine Post.then_ ?_
  refine Cd.seq ?_
  refine Cd.region ?_
  refine Seq.val (Runs.move rfl rfl) rfl rfl rfl ?_
  refine Seq.call (Enters.func rfl rfl rfl (run_enter Try.func131 (by kernel_rfl) rfl)) rfl rfl rfl (hciv _) ?_
  rintro en w5 ⟨rfl, hb5⟩
  refine ⟨_, rfl, ?_⟩
  replace bel := bel.step hb5
  refine Seq.val (Runs.move rfl rfl) rfl rfl rfl ?_
  refine Seq.val (Runs.extract rfl rfl rfl) rfl rfl rfl ?_
  refine Seq.val (Runs.extract rfl rfl rfl) rfl rfl rfl ?_
  refine Seq.val (Runs.extract rfl rfl rfl) rfl rfl rfl ?_
  refine Seq.val (Runs.extract rfl rfl rfl) rfl rfl rfl ?_
  refine Seq.val (Runs.assign rfl rfl) rfl rfl rfl ?_
  refine Seq.val (Runs.assign rfl rfl) rfl rfl rfl ?_
  refine Seq.val (Runs.assign rfl rfl) rfl rfl rfl ?_
  refine Seq.val (Runs.assign rfl rfl) rfl rfl rfl ?_
  refine Seq.nil ?_
  refine Post.weak (F' := [(0, _), (2, _), (3, _), (4, _), (5, _), (6, _)]) ⟨rfl, rfl, rfl, rfl, rfl, rfl, trivial⟩ ?_
  refine Post.then_ ?_
  refine Cd.seq ?_
  refine Cd.seq ?_
  refine Cd.region ?_
  refine Seq.val (Runs.move rfl rfl) rfl rfl rfl ?_
  refine Seq.val (Runs.not rfl rfl) rfl rfl rfl ?_
  refine Seq.nil ?_
  refine Post.weak (F' := [(0, _), (2, _), (3, _), (4, _), (5, _), (6, _), (17, _)]) ⟨rfl, rfl, rfl, rfl, rfl, rfl, rfl, trivial⟩ ?_
  refine Post.then_ ?_
  refine Cd.condF rfl rfl ?_
  refine Cd.skip ?_
  refine Post.then_ ?_
  refine Cd.seq ?_
  refine Cd.region ?_
  refine Seq.val (Runs.assign rfl rfl) rfl rfl rfl ?_
  refine Seq.nil ?_
  refine Post.weak (F' := [(0, _), (2, _), (3, _), (4, _), (5, _), (6, _), (7, _), (17, _)]) ⟨rfl, rfl, rfl, rfl, rfl, rfl, rfl, rfl, trivial⟩ ?_
  refine Post.then_ ?_
  refine Cd.seq ?_
  refine Cd.region ?_
  refine Seq.val (Runs.move rfl rfl) rfl rfl rfl ?_
  refine Seq.val (Runs.move rfl rfl) rfl rfl rfl ?_
  refine Seq.val ((Runs.quoI rfl rfl rfl (by omega) (by omega) (by omega)).cast (v' := .int .i64 ((y / 100 : Nat) : Int)) (int_eq (show (y : Int) / 100 = ((y / 100 : Nat) : Int) by omega))) rfl rfl rfl ?_
  refine Seq.call (Enters.value (first := []) (cap := []) rfl rfl rfl eg_two) rfl rfl rfl (two_any (y / 100) _ (by omega)) ?_
  rintro en w6 ⟨⟨s1, rfl, own⟩, hb6⟩
  refine ⟨_, rfl, ?_⟩
  replace own := own.base bel.size
  replace bel := bel.step hb6
  refine Seq.val (Runs.move rfl rfl) rfl rfl rfl ?_
  refine Seq.val (Runs.move rfl rfl) rfl rfl rfl ?_
  refine Seq.call (Enters.value (first := []) (cap := []) rfl rfl rfl eg_two) rfl rfl rfl (two_any y _ (by omega)) ?_
  rintro en w7 ⟨⟨s2, rfl, own2⟩, hb7⟩
  refine ⟨_, rfl, ?_⟩
  replace bel := bel.step hb7
  replace own := own.step hb7
  obtain ⟨A2, c2, rfl, rd2⟩ := own2.reads
  refine Seq.append rfl rfl rfl Try.underlying108 (by kernel_rfl) zero_uint8 rfl (by decide) (b := 1) (by kernel_rfl) own (rd2) (bt_one _) bel.size (by simp only [maxLen]; omega) (by omega) rfl rfl rfl ?_
  clear own
  intro vw1 w1 own haw1
  replace bel := bel.trans haw1.below
  clear own2
  refine Seq.val (Runs.assign rfl rfl) rfl rfl rfl ?_
  refine Seq.nil ?_
  refine Post.weak (F' := [(0, _), (2, _), (3, _), (4, _), (5, _), (6, _), (7, _), (8, _), (17, _)]) ⟨rfl, rfl, rfl, rfl, rfl, rfl, rfl, rfl, rfl, trivial⟩ ?_
  refine Post.then_ ?_
  refine Cd.seq ?_
  refine Cd.region ?_
  refine Seq.val (Runs.move rfl rfl) rfl rfl rfl ?_
  refine Seq.slice (vs := [_]) (s := 1) rfl rfl rfl Try.underlying108 (by kernel_rfl) (zero_uint8) (by omega) (by omega) ⟨rfl, trivial⟩ rfl rfl rfl ?_
  intro g27 w2 n27
  have e27 := Nat.le_trans bel.size n27.ge
  replace bel := bel.step n27.below
  replace own := own.step n27.below
  have k27 := n27.blk
  refine Seq.append rfl rfl rfl Try.underlying108 (by kernel_rfl) zero_uint8 rfl (by decide) (b := 1) (by kernel_rfl) own (Reads.blk k27 1 rfl) (by intro x hx; simp [flatC, Value.cells] at hx; rw [hx]; rfl) bel.size (by simp only [maxLen]; omega) (by omega) rfl rfl rfl ?_
  clear own
  intro vw3 w3 own haw3
  replace bel := bel.trans haw3.below
  refine Seq.val (Runs.move rfl rfl) rfl rfl rfl ?_
  refine Seq.val (Runs.move rfl rfl) rfl rfl rfl ?_
  refine Seq.call (Enters.value (first := []) (cap := []) rfl rfl rfl eg_two) rfl rfl rfl (two_any m _ (by omega)) ?_
  rintro en w8 ⟨⟨s3, rfl, own3⟩, hb8⟩
  refine ⟨_, rfl, ?_⟩
  replace bel := bel.step hb8
  replace own := own.step hb8
  obtain ⟨A3, c3, rfl, rd3⟩ := own3.reads
  refine Seq.append rfl rfl rfl Try.underlying108 (by kernel_rfl) zero_uint8 rfl (by decide) (b := 1) (by kernel_rfl) own (rd3) (bt_one _) bel.size (by simp only [maxLen]; omega) (by omega) rfl rfl rfl ?_
  clear own
  intro vw4 w4 own haw4
  replace bel := bel.trans haw4.below
  clear own3
  refine Seq.val (Runs.assign rfl rfl) rfl rfl rfl ?_
  refine Seq.nil ?_
  refine Post.weak (F' := [(0, _), (2, _), (3, _), (4, _), (5, _), (6, _), (7, _), (8, _), (17, _)]) ⟨rfl, rfl, rfl, rfl, rfl, rfl, rfl, rfl, rfl, trivial⟩ ?_
  refine Post.then_ ?_
  refine Cd.seq ?_
  refine Cd.region ?_
  refine Seq.val (Runs.move rfl rfl) rfl rfl rfl ?_
  refine Seq.slice (vs := [_]) (s := 1) rfl rfl rfl Try.underlying108 (by kernel_rfl) (zero_uint8) (by omega) (by omega) ⟨rfl, trivial⟩ rfl rfl rfl ?_
  intro g34 w5 n34
  have e34 := Nat.le_trans bel.size n34.ge
  replace bel := bel.step n34.below
  replace own := own.step n34.below
  have k34 := n34.blk
  refine Seq.append rfl rfl rfl Try.underlying108 (by kernel_rfl) zero_uint8 rfl (by decide) (b := 1) (by kernel_rfl) own (Reads.blk k34 1 rfl) (by intro x hx; simp [flatC, Value.cells] at hx; rw [hx]; rfl) bel.size (by simp only [maxLen]; omega) (by omega) rfl rfl rfl ?_
  clear own
  intro vw6 w6 own haw6
  replace bel := bel.trans haw6.below
  refine Seq.val (Runs.move rfl rfl) rfl rfl rfl ?_
  refine Seq.val (Runs.move rfl rfl) rfl rfl rfl ?_
  refine Seq.call (Enters.value (first := []) (cap := []) rfl rfl rfl eg_two) rfl rfl rfl (two_any d _ (by omega)) ?_
  rintro en w9 ⟨⟨s4, rfl, own4⟩, hb9⟩
  refine ⟨_, rfl, ?_⟩
  replace bel := bel.step hb9
  replace own := own.step hb9
  obtain ⟨A4, c4, rfl, rd4⟩ := own4.reads
  refine Seq.append rfl rfl rfl Try.underlying108 (by kernel_rfl) zero_uint8 rfl (by decide) (b := 1) (by kernel_rfl) own (rd4) (bt_one _) bel.size (by simp only [maxLen]; omega) (by omega) rfl rfl rfl ?_
  clear own
  intro vw7 w7 own haw7
  replace bel := bel.trans haw7.below
  clear own4
  refine Seq.val (Runs.assign rfl rfl) rfl rfl rfl ?_
  refine Seq.nil ?_
  refine Post.weak (F' := [(0, _), (2, _), (3, _), (4, _), (5, _), (6, _), (7, _), (8, _), (17, _)]) ⟨rfl, rfl, rfl, rfl, rfl, rfl, rfl, rfl, rfl, trivial⟩ ?_
  refine Post.then_ ?_
  refine Cd.seq ?_
  refine Cd.region ?_
  refine Seq.val (Runs.move rfl rfl) rfl rfl rfl ?_
  obtain ⟨A5, c5, rfl, rd5⟩ := own.reads
  have hbt : Bt [48 + y / 100 / 10 % 10, 48 + y / 100 % 10] ++ Bt [48 + y / 10 % 10, 48 + y % 10] ++ (flatC [.int .u8 45]).toArray.toList ++ Bt [48 + m / 10 % 10, 48 + m % 10] ++ (flatC [.int .u8 45]).toArray.toList ++ Bt [48 + d / 10 % 10, 48 + d % 10] = Bt (printD y m d) := by
    unfold printD
    rw [digR_four, digR_two, digR_two]
    simp [Bt, flatC, Value.cells]
  rw [hbt] at rd5
  refine Seq.val (Runs.convBS rfl rfl Try.underlying108 Try.underlying5 Try.underlying9 rd5 (printD_lt y m d)) rfl rfl rfl ?_
  refine Seq.val (Runs.assign rfl rfl) rfl rfl rfl ?_
  refine Seq.nil ?_
  refine Post.weak (F' := [(0, _), (2, _), (3, _), (4, _), (5, _), (6, _), (7, _), (8, _), (17, _)]) ⟨rfl, rfl, rfl, rfl, rfl, rfl, rfl, rfl, rfl, trivial⟩ ?_
  refine Post.then_ ?_
  refine Cd.ret ?_
  refine Post.end1 rfl rfl (.inl rfl) ?_
  exact ⟨rfl, bel⟩
end Go.Proofs.Ytijaldpmpjapiaa

namespace Go.Proofs.Ytijaldpmpjapiaa
open Go.RowKit

/-- Nothing but one block has changed. -/
structure Only (w0 w : World) (g : Nat) : Prop where
  row : w0.grownBy w (some g)
theorem Only.step {w0 w w' : World} {g : Nat} (h : Only w0 w g) (hb : Below w.heap.size w w') : Only w0 w' g := ⟨only_below h.row hb⟩
theorem Only.put {w0 w w' : World} {g B : Nat} {T : TypeId} {cur cs : Array Value} (h : Only w0 w g) (_k : Blk w g T cur) (p : Put w w' g T cs) (_e : B ≤ g) : Only w0 w' g := ⟨only_trans h.row p.grown⟩
/-- The first i and the last i have changed places. -/
def turned (xs : List Value) (n i j : Nat) : Option Value := if j < i ∨ n ≤ j + i then xs[n - 1 - j]? else xs[j]?
theorem reverse_any (g n cap : Nat) (cur : Array Value) (xs : List Value) (w : World) (hb : Blk w g 5 cur) (hc : n ≤ cap) (hn : n ≤ 1000000000) (hs : cur.size = cap) (hx : ∀ j, j < n → cur[j]? = xs[j]?) (hl : xs.length = n) (h1 : ∀ u ∈ xs, ∃ z, u = .int .u8 z) :
    Calls Try.prog 130 #[.slice (some ⟨g, 0, none⟩) n cap] w fun e w' => ∃ cur', e = .returned (.tuple #[]) ∧ Blk w' g 5 cur' ∧ cur'.size = cap ∧ (∀ j, j < n → cur'[j]? = xs.reverse[j]?) ∧ Only w w' g := by
  refine Calls.start 28 Try.func130 rfl rfl rfl ?_
  refine Cd.seq ?_
  refine Cd.region ?_
  refine Seq.val (Runs.move rfl rfl) rfl rfl rfl ?_
  refine Seq.val (Runs.len rfl rfl Try.underlying108) rfl rfl rfl ?_
  refine Seq.val (Runs.subI rfl rfl rfl (by omega) (by omega)) rfl rfl rfl ?_
  refine Seq.val (Runs.assign rfl rfl) rfl rfl rfl ?_
  refine Seq.val (Runs.assign rfl rfl) rfl rfl rfl ?_
  refine Seq.nil ?_
  refine Post.weak (F' := [(0, _), (2, _), (3, _)]) ⟨rfl, rfl, rfl, trivial⟩ ?_
  refine Post.then_ ?_
  refine Cd.block ?_
  refine Cd.loop (σ := Nat × Array Value) (fun s => [(0, .slice (some ⟨g, 0, none⟩) n cap), (2, .int .i64 (s.1 : Int)), (3, .int .i64 ((n : Int) - 1 - s.1))])
    (fun s wr => s.1 ≤ n ∧ Blk wr g 5 s.2 ∧ s.2.size = cap ∧ (∀ j, j < n → s.2[j]? = turned xs n s.1 j) ∧ Only w wr g) (fun s => n - s.1) (0, cur) ⟨Nat.zero_le _, hb, hs, fun j hj => by dsimp only; rw [hx j hj]; unfold turned; rw [if_neg (by omega)], ⟨World.grownBy.refl _ _⟩⟩
    ⟨rfl, rfl, congrArg (fun x => some (Value.int .i64 x)) (show (n : Int) - 1 = (n : Int) - 1 - ((0 : Nat) : Int) by omega), trivial⟩ ?_
  clear hb hs hx cur
  rintro ⟨i, cs⟩ wr ⟨hi, k0, hs, hx, hgr⟩
  dsimp only at hi k0 hs hx hgr ⊢
  have e0 : 0 ≤ g := Nat.zero_le g
  refine Cd.seq ?_
  refine Cd.seq ?_
  refine Cd.region ?_
  refine Seq.val (Runs.move rfl rfl) rfl rfl rfl ?_
  refine Seq.val (Runs.move rfl rfl) rfl rfl rfl ?_
  refine Seq.val (Runs.lss rfl rfl rfl) rfl rfl rfl ?_
  refine Seq.nil ?_
  refine Post.weak (F' := [(0, _), (2, _), (3, _), (9, _)]) ⟨rfl, rfl, rfl, rfl, trivial⟩ ?_
  refine Post.then_ ?_
  refine Cd.condD rfl (fun hc => ?_) (fun hc => ?_)
  · have hlt : i < n - 1 - i := by omega
    have get : ∀ j, j < n → ∃ z, xs[j]? = some (.int .u8 z) := fun j hj => by
      obtain ⟨z, hz⟩ := h1 xs[j] (List.getElem_mem (by omega))
      exact ⟨z, by rw [List.getElem?_eq_getElem (by omega), hz]⟩
    obtain ⟨za, ha⟩ := get (n - 1 - i) (by omega)
    obtain ⟨zb, hb⟩ := get i (by omega)
    have ca : cs[n - 1 - i]? = some (.int .u8 za) := by rw [hx _ (by omega), turned, if_neg (by omega), ha]
    have cb : cs[i]? = some (.int .u8 zb) := by rw [hx _ (by omega), turned, if_neg (by omega), hb]
    refine Cd.skip ?_
    refine Post.then_ ?_
    refine Cd.seq ?_
    refine Cd.block ?_
    refine Cd.draw 12 (by kernel_rfl) [2, 3] (.inr (fun _ _ d _ _ h => by cases d <;> exact h)) rfl Grow Grow.refl (fun _ _ _ => Grow.trans) ?_
    intro w1 hw1 zw1
    replace k0 := k0.step hw1
    replace hgr := hgr.step hw1
    have zlt := k0.lt
    refine Dr.val Grow.refl rfl (fun w hG => Runs.move rfl rfl) rfl ?_
    refine Dr.val Grow.refl rfl (fun w hG => Runs.move rfl rfl) rfl ?_
    refine Dr.late rfl rfl (fun w => Runs.move rfl rfl) Grow.refl rfl ?_
    refine Dr.late rfl rfl (fun w => Runs.move rfl rfl) Grow.refl rfl ?_
    refine Dr.val Grow.refl rfl (fun w hG => Runs.move rfl rfl) rfl ?_
    refine Dr.val Grow.refl rfl (fun w hG => Runs.move rfl rfl) rfl ?_
    refine Dr.val Grow.refl rfl (fun w hG => Runs.indexB rfl rfl rfl Try.underlying108 (by kernel_rfl) (j := n - 1 - i) (by omega) (by omega)) rfl ?_
    refine Dr.val Grow.refl rfl (fun w hG => Runs.loadB rfl rfl Try.underlying5 rfl (k0.step hG) ca) rfl ?_
    refine Dr.val Grow.refl rfl (fun w hG => Runs.move rfl rfl) rfl ?_
    refine Dr.val Grow.refl rfl (fun w hG => Runs.move rfl rfl) rfl ?_
    refine Dr.val Grow.refl rfl (fun w hG => Runs.indexB rfl rfl rfl Try.underlying108 (by kernel_rfl) (j := i) (by omega) (by omega)) rfl ?_
    refine Dr.val Grow.refl rfl (fun w hG => Runs.loadB rfl rfl Try.underlying5 rfl (k0.step hG) cb) rfl ?_
    refine Dr.nil ?_
    refine FinX.done (F' := [(0, _), (2, _), (3, _), (9, _), (14, _), (15, _), (16, _), (17, _), (21, _), (25, _)]) rfl ⟨rfl, rfl, rfl, rfl, rfl, rfl, rfl, rfl, rfl, rfl, trivial⟩ ?_
    intro w2 hw2 fw2
    replace k0 := k0.step hw2
    replace hgr := hgr.step hw2
    refine Seq.val (Runs.indexB rfl rfl rfl Try.underlying108 (by kernel_rfl) (j := i) (by omega) (by omega)) rfl rfl rfl ?_
    refine Seq.store1 rfl rfl rfl (by kernel_rfl) rfl rfl k0 (cb) rfl rfl ?_
    intro w3 pw3
    replace hgr := hgr.put k0 pw3 e0
    replace k0 := pw3.blk
    refine Seq.val (Runs.indexB rfl rfl rfl Try.underlying108 (by kernel_rfl) (j := n - 1 - i) (by omega) (by omega)) rfl rfl rfl ?_
    have ca2 : (cs.setIfInBounds i (.int .u8 za))[n - 1 - i]? = some (.int .u8 za) := by rw [Array.getElem?_setIfInBounds_ne (by omega)]; exact ca
    refine Seq.store1 rfl rfl rfl (by kernel_rfl) rfl rfl k0 (ca2) rfl rfl ?_
    intro w4 pw4
    replace hgr := hgr.put k0 pw4 e0
    replace k0 := pw4.blk
    refine Seq.nil ?_
    refine Post.weak (F' := [(0, _), (2, _), (3, _), (9, _)]) ⟨rfl, rfl, rfl, rfl, trivial⟩ ?_
    refine Post.block_normal ?_
    refine Post.then_ ?_
    refine Cd.region ?_
    refine Seq.val (Runs.move rfl rfl) rfl rfl rfl ?_
    refine Seq.val (Runs.addI rfl rfl rfl (by omega) (by omega)) rfl rfl rfl ?_
    refine Seq.val (Runs.move rfl rfl) rfl rfl rfl ?_
    refine Seq.val (Runs.subI rfl rfl rfl (by omega) (by omega)) rfl rfl rfl ?_
    refine Seq.val (Runs.assign rfl rfl) rfl rfl rfl ?_
    refine Seq.val (Runs.assign rfl rfl) rfl rfl rfl ?_
    refine Seq.nil ?_
    refine Post.weak (F' := [(0, _), (2, _), (3, _), (9, _)]) ⟨rfl, rfl, rfl, rfl, trivial⟩ ?_
    rw [show (i : Int) + 1 = ((i + 1 : Nat) : Int) by omega, show (n : Int) - 1 - (i : Int) - 1 = (n : Int) - 1 - ((i + 1 : Nat) : Int) by omega]
    refine Post.round (i + 1, (cs.setIfInBounds i (.int .u8 za)).setIfInBounds (n - 1 - i) (.int .u8 zb)) ⟨rfl, rfl, rfl, trivial⟩ ⟨by dsimp only; omega, k0, by simp [hs], fun j hj => ?_, hgr⟩ (by dsimp only; omega)
    dsimp only
    have hin : n - 1 - i < (cs.setIfInBounds i (.int .u8 za)).size := by rw [Array.size_setIfInBounds]; omega
    by_cases hj1 : j = n - 1 - i
    · subst hj1
      rw [Array.getElem?_setIfInBounds_self_of_lt hin, turned, if_pos (by omega), show n - 1 - (n - 1 - i) = i by omega, hb]
    · rw [Array.getElem?_setIfInBounds_ne (by omega)]
      by_cases hj2 : j = i
      · subst hj2
        rw [Array.getElem?_setIfInBounds_self_of_lt (by omega), turned, if_pos (by omega), ha]
      · rw [Array.getElem?_setIfInBounds_ne (by omega), hx j hj]
        unfold turned
        by_cases hc2 : j < i ∨ n ≤ j + i
        · rw [if_pos hc2, if_pos (by omega)]
        · rw [if_neg hc2, if_neg (by omega)]
  · skip
    refine Cd.exit ?_
    refine Post.then_exit ?_
    refine Post.round_exit ?_
    refine Post.block_exit ?_
    refine Post.end0 rfl (.inr rfl) ?_
    refine ⟨cs, rfl, k0, hs, fun j hj => ?_, hgr⟩
    rw [hx j hj, List.getElem?_reverse (by omega), hl]
    unfold turned
    by_cases hc2 : j < i ∨ n ≤ j + i
    · rw [if_pos hc2]
    · rw [if_neg hc2]
      rw [show n - 1 - j = j by omega]

theorem Own.blk {w : World} {B n : Nat} {e : TypeId} {v : Value} {xs : List Value} (h : Own w B e 1 v n xs) (h0 : 0 < n) : ∃ g cap cur, v = .slice (some ⟨g, 0, none⟩) n cap ∧ B ≤ g ∧ Blk w g e cur ∧ n ≤ cap ∧ cap ≤ maxLen ∧ cur.size = cap ∧ xs.length = n ∧ ∀ j, j < n → cur[j]? = xs[j]? := by
  obtain ⟨hl, ⟨_, h1⟩ | ⟨g, cap, cur, rfl, h1, h2, h3, h4, h5, h6⟩⟩ := h.row
  · omega
  · refine ⟨g, cap, cur, rfl, h1, h2, h3, h4, by omega, by omega, fun j hj => ?_⟩
    rw [← h6, List.getElem?_take_of_lt (by omega)]
    simp

set_option maxHeartbeats 1000000 in
theorem print_any (n : Int) (d : Nat) (w : World) (hn : I64 n) (hd : d ≤ 9) :
    Calls Try.prog 82 #[.int .i64 n, .int .i64 (d : Int)] w fun e w' => (∃ N, Rounds n.natAbs d N ∧ N ≤ 20 ∧ e = .returned (.string (strOf (printed n d N)))) ∧ Grow w w' := by
  have bel := Below.refl w.heap.size w
  have hu : n.natAbs ≤ 9223372036854775808 := by have := hn.1; have := hn.2; omega
  refine Calls.start 53 Try.func82 rfl rfl rfl ?_
  refine Cd.seq ?_
  refine Cd.region ?_
  refine Seq.val (Runs.assign rfl rfl) rfl rfl rfl ?_
  refine Seq.nil ?_
  refine Post.weak (F' := [(0, _), (1, _), (4, _)]) ⟨rfl, rfl, rfl, trivial⟩ ?_
  refine Post.then_ ?_
  refine Cd.seq ?_
  refine Cd.seq ?_
  refine Cd.region ?_
  refine Seq.val (Runs.move rfl rfl) rfl rfl rfl ?_
  refine Seq.val (Runs.lss rfl rfl rfl) rfl rfl rfl ?_
  refine Seq.val (Runs.move rfl rfl) rfl rfl rfl ?_
  refine SeqC.start ?_
  refine SeqC.open rfl rfl rfl rfl rfl rfl rfl (fun hcx => Runs.move rfl rfl) ?_
  refine SeqC.next rfl rfl rfl rfl rfl rfl rfl (fun hcx => Runs.gtr rfl rfl rfl) ?_
  refine SeqC.or rfl rfl rfl rfl rfl rfl rfl ?_
  refine Seq.nil ?_
  refine Post.weak (F' := [(0, _), (1, _), (4, _), (13, _)]) ⟨rfl, rfl, rfl, rfl, trivial⟩ ?_
  refine Post.then_ ?_
  refine Cd.cond rfl (fun h => ?_) (fun h => ?_)
  · exfalso
    simp at h
    omega
  clear h
  refine Cd.skip ?_
  refine Post.then_ ?_
  refine Cd.seq ?_
  refine Cd.region ?_
  refine Seq.val (Runs.assign rfl rfl) rfl rfl rfl ?_
  refine Seq.nil ?_
  refine Post.weak (F' := [(0, _), (1, _), (4, _), (5, _), (13, _)]) ⟨rfl, rfl, rfl, rfl, rfl, trivial⟩ ?_
  refine Post.then_ ?_
  refine Cd.seq ?_
  refine Cd.seq ?_
  refine Cd.region ?_
  refine Seq.val (Runs.move rfl rfl) rfl rfl rfl ?_
  refine Seq.call (Enters.func rfl rfl rfl (run_enter Try.func129 (by kernel_rfl) rfl)) rfl rfl rfl (size_nat _ _ hn) ?_
  rintro e w3 ⟨rfl, rfl⟩
  refine ⟨_, rfl, ?_⟩
  refine Seq.val (Runs.assign rfl rfl) rfl rfl rfl ?_
  refine Seq.val (Runs.assign rfl rfl) rfl rfl rfl ?_
  refine Seq.nil ?_
  refine Post.weak (F' := [(0, _), (1, _), (4, _), (5, _), (6, _), (7, _), (13, _)]) ⟨rfl, rfl, rfl, rfl, rfl, rfl, rfl, trivial⟩ ?_
  refine Post.then_ ?_
  refine Cd.block ?_
  generalize hun : n.natAbs = u at *
  have own := Own.nil w w.heap.size 5 1
  refine Cd.loop (σ := Nat × Value) (fun s => [(0, .int .i64 n), (1, .int .i64 (d : Int)), (5, s.2), (6, .int .u64 ((u / 10 ^ s.1 : Nat) : Int)), (7, .int .i64 (s.1 : Int))])
    (fun s wr => s.1 ≤ 20 ∧ Below w.heap.size w wr ∧ Own wr w.heap.size 5 1 s.2 (prB u d s.1).length (Bt (prB u d s.1)) ∧ ∀ j, j < s.1 → 0 < u / 10 ^ j ∨ j ≤ d) (fun s => 20 - s.1) (0, .slice none 0 0) ⟨by simp, bel, own, fun j hj => absurd hj (by simp)⟩ ⟨rfl, rfl, rfl, congrArg (fun x : Nat => some (Value.int .u64 (x : Int))) (show u = u / 10 ^ 0 by simp), rfl, trivial⟩ ?_
  clear bel
  clear own
  rintro ⟨k, v⟩ wr ⟨hk, bel, own, hgo⟩
  dsimp only at hk own hgo ⊢
  refine Cd.seq ?_
  refine Cd.seq ?_
  refine Cd.region ?_
  refine Seq.val (Runs.move rfl rfl) rfl rfl rfl ?_
  refine Seq.val (Runs.gtr rfl rfl rfl) rfl rfl rfl ?_
  refine Seq.val (Runs.move rfl rfl) rfl rfl rfl ?_
  refine SeqC.start ?_
  refine SeqC.open rfl rfl rfl rfl rfl rfl rfl (fun hcx => Runs.move rfl rfl) ?_
  refine SeqC.next rfl rfl rfl rfl rfl rfl rfl (fun hcx => Runs.move rfl rfl) ?_
  refine SeqC.next rfl rfl rfl rfl rfl rfl rfl (fun hcx => Runs.leq rfl rfl rfl) ?_
  refine SeqC.or rfl rfl rfl rfl rfl rfl rfl ?_
  refine Seq.nil ?_
  refine Post.weak (F' := [(0, _), (1, _), (5, _), (6, _), (7, _), (22, _)]) ⟨rfl, rfl, rfl, rfl, rfl, rfl, trivial⟩ ?_
  refine Post.then_ ?_
  have hlen := prB_len u d k
  have hdk : u / 10 ^ k ≤ u := Nat.div_le_self _ _
  have hdt := div_ten u k
  have hpr : prB u d (k + 1) = prB u d k ++ (if k = d ∧ 0 < d then [46] else []) ++ [48 + u / 10 ^ k % 10] := rfl
  generalize hq : u / 10 ^ k = q at *
  refine Cd.cond rfl (fun hc => ?_) (fun hc => ?_)
  · have hgo1 : 0 < q ∨ k ≤ d := by simp at hc; omega
    have hk20 : k < 20 := by
      rcases Nat.lt_or_ge k 20 with h | h
      · exact h
      · obtain rfl : k = 20 := by omega
        have : u / 10 ^ 20 = 0 := Nat.div_eq_of_lt (by omega)
        omega
    have hgo2 : ∀ j, j < k + 1 → 0 < u / 10 ^ j ∨ j ≤ d := fun j hj => by
      rcases Nat.lt_or_ge j k with h | h
      · exact hgo j h
      · obtain rfl : j = k := by omega
        rw [hq]; exact hgo1
    refine Cd.skip ?_
    refine Post.then_ ?_
    refine Cd.seq ?_
    refine Cd.block ?_
    refine Cd.seqJ (σ := Value) (fun v => [(0, .int .i64 n), (1, .int .i64 (d : Int)), (5, v), (6, .int .u64 (q : Int)), (7, .int .i64 (k : Int))]) (fun v wr => Below w.heap.size w wr ∧ Own wr w.heap.size 5 1 v (prB u d k ++ if k = d ∧ 0 < d then [46] else []).length (Bt (prB u d k ++ if k = d ∧ 0 < d then [46] else []))) ?_ ?_
    · skip
      refine Cd.seq ?_
      refine Cd.region ?_
      refine Seq.val (Runs.move rfl rfl) rfl rfl rfl ?_
      refine Seq.val (Runs.move rfl rfl) rfl rfl rfl ?_
      refine Seq.val (Runs.eqlI rfl rfl rfl) rfl rfl rfl ?_
      refine Seq.val (Runs.move rfl rfl) rfl rfl rfl ?_
      refine SeqC.start ?_
      refine SeqC.open rfl rfl rfl rfl rfl rfl rfl (fun hcx => Runs.move rfl rfl) ?_
      refine SeqC.next rfl rfl rfl rfl rfl rfl rfl (fun hcx => Runs.gtr rfl rfl rfl) ?_
      refine SeqC.and rfl rfl rfl rfl rfl rfl rfl ?_
      refine Seq.nil ?_
      refine Post.weak (F' := [(0, _), (1, _), (5, _), (6, _), (7, _), (22, _), (31, _)]) ⟨rfl, rfl, rfl, rfl, rfl, rfl, rfl, trivial⟩ ?_
      refine Post.then_ ?_
      refine Cd.cond rfl (fun hp => ?_) (fun hp => ?_)
      · rw [if_pos (by simp at hp; omega)]
        refine Cd.region ?_
        refine Seq.val (Runs.move rfl rfl) rfl rfl rfl ?_
        refine Seq.slice (vs := [_]) (s := 1) rfl rfl rfl Try.underlying108 (by kernel_rfl) (zero_uint8) (by omega) (by omega) ⟨rfl, trivial⟩ rfl rfl rfl ?_
        intro g33 w1 n33
        have e33 := Nat.le_trans bel.size n33.ge
        replace bel := bel.step n33.below
        replace own := own.step n33.below
        have k33 := n33.blk
        refine Seq.append rfl rfl rfl Try.underlying108 (by kernel_rfl) zero_uint8 rfl (by decide) (b := 1) (by kernel_rfl) own (Reads.blk k33 1 rfl) (by intro x hx; simp [flatC, Value.cells] at hx; rw [hx]; rfl) bel.size (by simp only [maxLen]; omega) (by omega) rfl rfl rfl ?_
        clear own
        intro vw2 w2 own haw2
        replace bel := bel.trans haw2.below
        refine Seq.val (Runs.assign rfl rfl) rfl rfl rfl ?_
        refine Seq.nil ?_
        refine Post.weak (F' := [(0, _), (1, _), (5, _), (6, _), (7, _), (22, _), (31, _)]) ⟨rfl, rfl, rfl, rfl, rfl, rfl, rfl, trivial⟩ ?_
        exact Post.join _ ⟨rfl, rfl, rfl, rfl, rfl, trivial⟩ ⟨bel, by rw [List.length_append, Bt_append]; exact own⟩
      · rw [if_neg (by simp at hp; omega)]
        refine Cd.skip ?_
        exact Post.join _ ⟨rfl, rfl, rfl, rfl, rfl, trivial⟩ ⟨bel, by rw [List.append_nil]; exact own⟩
    clear own bel hc
    rintro v wr ⟨bel, own⟩
    have hl2 : (prB u d k ++ if k = d ∧ 0 < d then [46] else []).length ≤ 2 * k + 1 := by rw [List.length_append]; split <;> simp <;> omega
    generalize prB u d k ++ (if k = d ∧ 0 < d then [46] else []) = pre at *
    refine Cd.seq ?_
    refine Cd.region ?_
    refine Seq.val (Runs.move rfl rfl) rfl rfl rfl ?_
    refine Seq.val (Runs.move rfl rfl) rfl rfl rfl ?_
    refine Seq.val (Runs.remL 10 rfl rfl rfl rfl (by omega)) rfl rfl rfl ?_
    refine Seq.val (Runs.addU rfl rfl rfl (by omega) (by omega)) rfl rfl rfl ?_
    refine Seq.val (Runs.convI rfl rfl Try.underlying124 Try.underlying5 (wrapB (by omega) (by omega))) rfl rfl rfl ?_
    refine Seq.slice (vs := [_]) (s := 1) rfl rfl rfl Try.underlying108 (by kernel_rfl) (zero_uint8) (by omega) (by omega) ⟨rfl, trivial⟩ rfl rfl rfl ?_
    intro g40 w1 n40
    have e40 := Nat.le_trans bel.size n40.ge
    replace bel := bel.step n40.below
    replace own := own.step n40.below
    have k40 := n40.blk
    refine Seq.append rfl rfl rfl Try.underlying108 (by kernel_rfl) zero_uint8 rfl (by decide) (b := 1) (by kernel_rfl) own (Reads.blk k40 1 rfl) (by intro x hx; simp [flatC, Value.cells] at hx; rw [hx]; rfl) bel.size (by simp only [maxLen]; omega) (by omega) rfl rfl rfl ?_
    clear own
    intro vw2 w2 own haw2
    replace bel := bel.trans haw2.below
    refine Seq.val (Runs.assign rfl rfl) rfl rfl rfl ?_
    refine Seq.nil ?_
    refine Post.weak (F' := [(0, _), (1, _), (5, _), (6, _), (7, _)]) ⟨rfl, rfl, rfl, rfl, rfl, trivial⟩ ?_
    refine Post.then_ ?_
    refine Cd.region ?_
    refine Seq.val (Runs.move rfl rfl) rfl rfl rfl ?_
    refine Seq.val (Runs.quoLU 10 rfl rfl rfl rfl (by omega) (by omega)) rfl rfl rfl ?_
    refine Seq.val (Runs.assign rfl rfl) rfl rfl rfl ?_
    refine Seq.nil ?_
    refine Post.weak (F' := [(0, _), (1, _), (5, _), (6, _), (7, _)]) ⟨rfl, rfl, rfl, rfl, rfl, trivial⟩ ?_
    refine Post.block_normal ?_
    refine Post.then_ ?_
    refine Cd.region ?_
    refine Seq.val (Runs.move rfl rfl) rfl rfl rfl ?_
    refine Seq.val (Runs.addI rfl rfl rfl (by omega) (by omega)) rfl rfl rfl ?_
    refine Seq.val (Runs.assign rfl rfl) rfl rfl rfl ?_
    refine Seq.nil ?_
    refine Post.weak (F' := [(0, _), (1, _), (5, _), (6, _), (7, _)]) ⟨rfl, rfl, rfl, rfl, rfl, trivial⟩ ?_
    refine Post.round (k + 1, _) ⟨rfl, rfl, rfl, congrArg (fun x : Nat => some (Value.int .u64 (x : Int))) hdt, rfl, trivial⟩ ⟨by dsimp only; omega, bel, ?_, hgo2⟩ (by dsimp only; omega)
    dsimp only
    rw [hpr, List.length_append, Bt_append]
    exact own
  · have hstop : Rounds u d k := ⟨hgo, by rw [hq]; simp at hc; omega⟩
    have hk1 : 0 < k := by simp at hc; omega
    refine Cd.exit ?_
    refine Post.then_exit ?_
    refine Post.round_exit ?_
    refine Post.block_exit ?_
    refine Post.then_ ?_
    refine Cd.seqJ (σ := Value) (fun v => [(5, v)]) (fun v wr => Below w.heap.size w wr ∧ Own wr w.heap.size 5 1 v (prB u d k ++ if n < 0 then [45] else []).length (Bt (prB u d k ++ if n < 0 then [45] else []))) ?_ ?_
    · skip
      refine Cd.seq ?_
      refine Cd.region ?_
      refine Seq.val (Runs.move rfl rfl) rfl rfl rfl ?_
      refine Seq.val (Runs.lss rfl rfl rfl) rfl rfl rfl ?_
      refine Seq.nil ?_
      refine Post.weak (F' := [(0, _), (1, _), (5, _), (6, _), (7, _), (22, _), (45, _)]) ⟨rfl, rfl, rfl, rfl, rfl, rfl, rfl, trivial⟩ ?_
      refine Post.then_ ?_
      refine Cd.condD rfl (fun hp => ?_) (fun hp => ?_)
      · rw [if_pos hp]
        refine Cd.region ?_
        refine Seq.val (Runs.move rfl rfl) rfl rfl rfl ?_
        refine Seq.slice (vs := [_]) (s := 1) rfl rfl rfl Try.underlying108 (by kernel_rfl) (zero_uint8) (by omega) (by omega) ⟨rfl, trivial⟩ rfl rfl rfl ?_
        intro g47 w1 n47
        have e47 := Nat.le_trans bel.size n47.ge
        replace bel := bel.step n47.below
        replace own := own.step n47.below
        have k47 := n47.blk
        refine Seq.append rfl rfl rfl Try.underlying108 (by kernel_rfl) zero_uint8 rfl (by decide) (b := 1) (by kernel_rfl) own (Reads.blk k47 1 rfl) (by intro x hx; simp [flatC, Value.cells] at hx; rw [hx]; rfl) bel.size (by simp only [maxLen]; omega) (by omega) rfl rfl rfl ?_
        clear own
        intro vw2 w2 own haw2
        replace bel := bel.trans haw2.below
        refine Seq.val (Runs.assign rfl rfl) rfl rfl rfl ?_
        refine Seq.nil ?_
        refine Post.weak (F' := [(0, _), (1, _), (5, _), (6, _), (7, _), (22, _), (45, _)]) ⟨rfl, rfl, rfl, rfl, rfl, rfl, rfl, trivial⟩ ?_
        exact Post.join _ ⟨rfl, trivial⟩ ⟨bel, by rw [List.length_append, Bt_append]; exact own⟩
      · rw [if_neg hp]
        refine Cd.skip ?_
        exact Post.join _ ⟨rfl, trivial⟩ ⟨bel, by rw [List.append_nil]; exact own⟩
    clear own bel hc
    rintro v wr ⟨bel, own⟩
    have hpos : 0 < (prB u d k ++ if n < 0 then [45] else []).length := by rw [List.length_append]; omega
    have hl3 : (prB u d k ++ if n < 0 then [45] else []).length ≤ 41 := by rw [List.length_append]; split <;> simp <;> omega
    have hlt : ∀ x ∈ (prB u d k ++ if n < 0 then [45] else []), x < 256 := fun x hx => by
      rcases List.mem_append.1 hx with hx | hx
      · exact prB_lt u d k x hx
      · split at hx
        · simp at hx; omega
        · simp at hx
    have hprd : printed n d k = (prB u d k ++ if n < 0 then [45] else []).reverse := by unfold printed; rw [hun]
    obtain ⟨g, cap, cur, rfl, hBg, kb, hnc, hcm, hsz, hxl, hcur⟩ := own.blk hpos
    generalize prB u d k ++ (if n < 0 then [45] else []) = l at *
    refine Cd.seq ?_
    refine Cd.region ?_
    refine Seq.val (Runs.move rfl rfl) rfl rfl rfl ?_
    refine Seq.call (Enters.func rfl rfl rfl (run_enter Try.func130 (by kernel_rfl) rfl)) rfl rfl rfl (reverse_any g l.length cap cur (Bt l) _ kb hnc (by omega) hsz hcur hxl (fun x hx => by unfold Bt at hx; obtain ⟨z, _, rfl⟩ := List.mem_map.1 hx; exact ⟨_, rfl⟩)) ?_
    rintro e w9 ⟨cur', rfl, kb', hsz', hcur', honly⟩
    refine ⟨_, rfl, ?_⟩
    replace bel := bel.trans (only_to_below honly.row hBg kb.lt)
    have hrd : Reads w9 w9.heap.size 1 (some ⟨g, 0, none⟩) l.length (Bt l.reverse) := by
      refine ⟨by rw [length_Bt]; simp, fun _ => ⟨_, rfl, kb'.lt, fun j x hx => ?_⟩⟩
      have hplain : (⟨g, 0, none⟩ : Addr).add j = ⟨g, j, none⟩ := by unfold Addr.add; split <;> simp_all
      rw [hplain, cell_of_row _ _ _ _ _ _ kb']
      have hj : j < l.length := by
        rcases Nat.lt_or_ge j l.length with h | h
        · exact h
        · rw [get_Bt, List.getElem?_eq_none (by simpa using h)] at hx; cases hx
      rw [hcur' j hj]
      unfold Bt at hx ⊢
      rw [← List.map_reverse]
      exact hx
    refine Seq.nil ?_
    refine Post.weak (F' := [(5, _)]) ⟨rfl, trivial⟩ ?_
    refine Post.then_ ?_
    refine Cd.seq ?_
    refine Cd.region ?_
    refine Seq.val (Runs.move rfl rfl) rfl rfl rfl ?_
    refine Seq.val (Runs.convBS rfl rfl Try.underlying108 Try.underlying5 Try.underlying9 hrd (fun x hx => hlt x (List.mem_reverse.1 hx))) rfl rfl rfl ?_
    refine Seq.val (Runs.assign rfl rfl) rfl rfl rfl ?_
    refine Seq.nil ?_
    refine Post.weak (F' := [(4, _), (5, _)]) ⟨rfl, rfl, trivial⟩ ?_
    refine Post.then_ ?_
    refine Cd.ret ?_
    refine Post.end1 rfl rfl (.inl rfl) ?_
    exact ⟨⟨k, hstop, by omega, by rw [hprd]⟩, bel⟩
end Go.Proofs.Ytijaldpmpjapiaa

namespace Go.Proofs.Ytijaldpmpjapiaa
open Go.RowKit

/-- How many rounds a number's text takes. -/
def numN (u : Nat) : Nat := ((List.range 21).find? fun N => !(decide (0 < u / 10 ^ N) || decide (N ≤ 0))).getD 0
theorem numN_of {u N : Nat} (h : Rounds u 0 N) (hN : N ≤ 20) : numN u = N := by
  have hf : (List.range 21).find? (fun N => !(decide (0 < u / 10 ^ N) || decide (N ≤ 0))) = some N := by
    rw [List.find?_range_eq_some]
    refine ⟨?_, List.mem_range.2 (by omega), fun j hj => ?_⟩
    · have := h.2
      simp only [not_or] at this
      simp only [Bool.not_eq_true', Bool.or_eq_false_iff, decide_eq_false_iff_not]
      exact this
    · have := h.1 j hj
      simp only [Bool.not_not, Bool.or_eq_true, decide_eq_true_eq]
      exact this
  unfold numN
  rw [hf]; rfl
/-- A whole number's text. -/
def numT (n : Int) : List Nat := printed n 0 (numN n.natAbs)
theorem numN_le (u : Nat) : numN u ≤ 20 := by
  unfold numN
  cases h : (List.range 21).find? (fun N => !(decide (0 < u / 10 ^ N) || decide (N ≤ 0))) with
  | none => exact Nat.zero_le _
  | some N => have := List.mem_range.1 (List.mem_of_find?_eq_some h); show N ≤ 20; omega
theorem numT_len (n : Int) : (numT n).length ≤ 41 := by
  unfold numT printed
  have h1 := numN_le n.natAbs
  have h2 := prB_len n.natAbs 0 (numN n.natAbs)
  rw [List.length_reverse, List.length_append]
  split <;> simp <;> omega
theorem numT_lt (n : Int) : ∀ x ∈ numT n, x < 256 := by
  intro x hx
  unfold numT printed at hx
  rw [List.mem_reverse, List.mem_append] at hx
  rcases hx with hx | hx
  · exact prB_lt _ _ _ x hx
  · split at hx <;> simp at hx; omega
theorem numPrintC (n : Int) (w : World) (hn : I64 n) : Calls Try.prog 82 #[.int .i64 n, .int .i64 0] w fun e w' => e = .returned (.string (strOf (numT n))) ∧ Grow w w' :=
  (print_any n 0 w hn (by decide)).mono fun e w' ⟨⟨N, h1, h2, h3⟩, h4⟩ => ⟨by rw [h3]; unfold numT; rw [numN_of h1 h2], h4⟩
theorem refNumPrintC (n : Int) (w : World) (hn : I64 n) : Calls Try.prog 46 #[.int .i64 n, .int .i64 0] w fun e w' => e = .returned (.string (strOf (numT n))) ∧ Grow w w' :=
  (refPrint_any n 0 w hn (by decide)).mono fun e w' ⟨⟨N, h1, h2, h3⟩, h4⟩ => ⟨by rw [h3]; unfold numT; rw [numN_of h1 h2], h4⟩
theorem dayT_len (n : Nat) : (dayT n).length = 10 := by unfold dayT printD; simp [digR_len]
theorem dayT_lt (n : Nat) : ∀ x ∈ dayT n, x < 256 := printD_lt _ _ _
theorem refDayC (n : Nat) (w : World) (h : n ≤ 2932896) : Calls Try.prog 47 #[.int .i64 (n : Int)] w fun e w' => e = .returned (.string (strOf (dayT n))) ∧ Grow w w' := by
  obtain ⟨q, hq⟩ : ∃ q, (n + 719468) / 146097 = q := ⟨_, rfl⟩
  obtain ⟨e, he⟩ : ∃ e, (n + 719468) % 146097 = e := ⟨_, rfl⟩
  have hel : e < 146097 := by rw [← he]; exact Nat.mod_lt _ (by decide)
  obtain ⟨z1, z2, z3, z4, z5⟩ := civ_qe n q e (by omega) hel
  have hok := ofOk_of n _ _ _ h z1 z2 z3 z4 z5
  have hp := refDayPrint_any _ _ _ w hok
  rw [z1, Int.toNat_natCast, Int.toNat_natCast, Int.toNat_natCast] at hp
  rw [dayT_of n q e hq he]
  exact hp
def signS : List (List Nat) := [[43], [45], [42], [47], [], [], [60], [60, 61], [61], [33, 61], [62, 61], [62], [38], [124], [33], [45]]
def signP : List Int := [4, 4, 5, 5, 7, 7, 3, 3, 3, 3, 3, 3, 2, 1, 6, 6]
/-- An op's sign, and how tightly it binds. -/
def bindT (op : Int) : List Nat × Int := if op < 5 ∨ 20 < op then ([], 7) else (signS.getD (op - 5).toNat [], signP.getD (op - 5).toNat 7)
/-- A text, in parentheses if it binds less tightly than it must. -/
def parT (least : Int) (x : Int × List Nat) : List Nat := if x.1 < least then [40] ++ x.2 ++ [41] else x.2
def joinT : List (List Nat) → List Nat
  | [] => []
  | s :: r => s ++ (r.flatMap fun t => [44, 32] ++ t)
theorem joinT_snoc (l : List (List Nat)) (x : List Nat) : joinT (l ++ [x]) = if l = [] then x else joinT l ++ [44, 32] ++ x := by
  cases l with
  | nil => simp [joinT]
  | cons s r => simp [joinT]
/-- What an op's text is, by the texts within. -/
def headT (op n : Int) (nm : List Nat) (l : List (Int × List Nat)) : List Nat :=
  if op = 1 then numT n else if op = 2 then dayT n.toNat else if op = 3 then nm else if op = 4 then [100, 97, 121]
  else if (bindT op).2 = 6 then (bindT op).1 ++ parT 6 (l.getD 0 (7, []))
  else if (bindT op).2 = 3 then parT 4 (l.getD 0 (7, [])) ++ [32] ++ (bindT op).1 ++ [32] ++ parT 4 (l.getD 1 (7, []))
  else if (bindT op).2 < 6 then parT (bindT op).2 (l.getD 0 (7, [])) ++ [32] ++ (bindT op).1 ++ [32] ++ parT ((bindT op).2 + 1) (l.getD 1 (7, []))
  else (if op = 9 then [109, 105, 110, 40] else if op = 10 then [109, 97, 120, 40] else [105, 102, 40]) ++ joinT (l.map (·.2)) ++ [41]
mutual
def exprT : Ex → List Nat
  | .mk op n nm l => headT op n nm (exprTL l)
def exprTL : List Ex → List (Int × List Nat)
  | [] => []
  | e :: r => ((bindT e.op).2, exprT e) :: exprTL r
end
def pairT (e : Ex) : Int × List Nat := ((bindT e.op).2, exprT e)
theorem exprTL_map : ∀ l, exprTL l = l.map pairT
  | [] => by rw [exprTL]; rfl
  | e :: r => by rw [exprTL, exprTL_map r]; rfl
theorem exprT_eq (e : Ex) : exprT e = headT e.op e.n e.name (e.args.map pairT) := by
  cases e; rw [exprT, exprTL_map]; rfl
def inT (e : Ex) (least : Int) : List Nat := parT least (pairT e)
/-- What a built head says. -/
theorem headB_inv {op n : Int} {nm : List Nat} {k : Nat} (h : headB op n nm k = true) : arityZ op = (k : Int) ∧ (n = 0 ∨ op = 1 ∨ op = 2) ∧ (nm = [] ∨ op = 3) ∧ 0 ≤ n ∧ (op = 2 → n ≤ 2932896) ∧ (op = 3 → freeB nm = true) :=
  Classical.byContradiction fun hn => by rw [headB_false hn] at h; cases h
theorem builtB_inv {e : Ex} (h : builtB e = true) : headB e.op e.n e.name e.args.length = true ∧ ∀ x ∈ e.args, builtB x = true := by
  rw [builtB_eq, Bool.and_eq_true, List.all_eq_true] at h
  exact h
theorem arity_op {op : Int} {k : Nat} (h : arityZ op = (k : Int)) : 1 ≤ op ∧ op ≤ 21 ∧ (op ≤ 4 → k = 0) ∧ (5 ≤ op → op ≤ 18 → k = 2) ∧ (op = 19 ∨ op = 20 → k = 1) ∧ (op = 21 → k = 3) := by
  unfold arityZ at h
  repeat' split at h
  all_goals omega
theorem free_len {nm : List Nat} (h : freeB nm = true) : nm.length ≤ 16 := by
  unfold freeB namedB at h
  simp at h
  omega
theorem bindT_len (op : Int) : (bindT op).1.length ≤ 2 ∧ (∀ x ∈ (bindT op).1, x < 256) ∧ 1 ≤ (bindT op).2 ∧ (bindT op).2 ≤ 7 := by
  unfold bindT
  split
  · simp
  · rename_i h
    have : (op - 5).toNat < 16 := by omega
    generalize (op - 5).toNat = j at *
    have key : ∀ j : Fin 16, (signS.getD j.val []).length ≤ 2 ∧ (∀ x ∈ signS.getD j.val [], x < 256) ∧ 1 ≤ signP.getD j.val 7 ∧ signP.getD j.val 7 ≤ 7 := by decide
    exact key ⟨j, this⟩
theorem parT_len (least : Int) (x : Int × List Nat) : (parT least x).length ≤ x.2.length + 2 ∧ ((∀ d ∈ x.2, d < 256) → ∀ d ∈ parT least x, d < 256) := by
  unfold parT
  split
  · refine ⟨by simp, fun h d hd => ?_⟩
    simp only [List.mem_append, List.mem_singleton] at hd
    rcases hd with (hd | hd) | hd
    · omega
    · exact h d hd
    · omega
  · exact ⟨by omega, fun h => h⟩
theorem run_all {l : List Nat} (h : runN partB l = l.length) : ∀ x ∈ l, partB x = true := by
  induction l with
  | nil => intro x hx; cases hx
  | cons c r ih =>
    rw [runN_cons] at h
    intro x hx
    split at h
    · rename_i hc
      rcases List.mem_cons.1 hx with rfl | hx
      · exact hc
      · exact ih (by rw [List.length_cons] at h; omega) x hx
    · simp at h
theorem free_lt {nm : List Nat} (h : freeB nm = true) : ∀ x ∈ nm, x < 256 := by
  unfold freeB namedB at h
  simp at h
  intro x hx
  have := run_all h.1.2 x hx
  unfold partB letB digB at this
  simp at this
  omega
theorem bt3 {P : Nat → Prop} {a b c : List Nat} (ha : ∀ x ∈ a, P x) (hb : ∀ x ∈ b, P x) (hc : ∀ x ∈ c, P x) : ∀ x ∈ a ++ b ++ c, P x := by
  intro x hx
  simp only [List.mem_append] at hx
  rcases hx with (h | h) | h
  · exact ha x h
  · exact hb x h
  · exact hc x h
theorem join_lt {l : List (List Nat)} (h : ∀ t ∈ l, ∀ x ∈ t, x < 256) : ∀ x ∈ joinT l, x < 256 := by
  cases l with
  | nil => intro x hx; cases hx
  | cons s r =>
    intro x hx
    unfold joinT at hx
    simp only [List.mem_append, List.mem_flatMap, List.mem_cons, List.not_mem_nil, or_false] at hx
    rcases hx with hx | ⟨t, ht, hx | hx⟩
    · exact h s List.mem_cons_self x hx
    · omega
    · exact h t (List.mem_cons_of_mem _ ht) x hx
theorem snd_pairT (l : List Ex) : (l.map pairT).map (·.2) = l.map exprT := by rw [List.map_map]; rfl
theorem joinT_cons2 (s t : List Nat) (r : List (List Nat)) : joinT (s :: t :: r) = s ++ [44, 32] ++ joinT (t :: r) := by simp [joinT]
theorem joinT_len : ∀ l : List Ex, (∀ x ∈ l, (exprT x).length ≤ 50 * x.nodes) → (joinT (l.map exprT)).length ≤ 50 * nodesL l + 2 * l.length
  | [], _ => by simp [joinT]
  | [x], h => by have := h x List.mem_cons_self; simp [joinT, nodesL]; omega
  | x :: y :: r, h => by
    have h1 := h x List.mem_cons_self
    have h2 := joinT_len (y :: r) fun z hz => h z (List.mem_cons_of_mem _ hz)
    rw [nodesL, List.map_cons, List.map_cons, joinT_cons2, ← List.map_cons]
    simp only [List.length_append, List.length_cons, List.length_nil] at h2 ⊢
    omega
theorem exprT_bd (N : Nat) : ∀ e : Ex, e.nodes ≤ N → builtB e = true → (exprT e).length ≤ 50 * e.nodes ∧ ∀ d ∈ exprT e, d < 256 := by
  induction N with
  | zero => intro e hN; have := e.nodes_pos; omega
  | succ N ih =>
    intro e hN hb
    obtain ⟨hh, ha⟩ := builtB_inv hb
    obtain ⟨h1, h2, h3, h4, h5, h6⟩ := headB_inv hh
    obtain ⟨o1, o2, o3, o4, o5, o6⟩ := arity_op h1
    obtain ⟨b1, b2, b3, b4⟩ := bindT_len e.op
    have harg : ∀ x ∈ e.args, (exprT x).length ≤ 50 * x.nodes ∧ ∀ d ∈ exprT x, d < 256 := fun x hx => ih x (by have := Ex.arg_nodes hx; omega) (ha x hx)
    have hpar : ∀ x ∈ e.args, ∀ least, (parT least (pairT x)).length ≤ 50 * x.nodes + 2 ∧ ∀ d ∈ parT least (pairT x), d < 256 := fun x hx least => by
      have h := parT_len least (pairT x)
      have h2 := harg x hx
      exact ⟨by have := h.1; have e : (pairT x).2 = exprT x := rfl; rw [e] at this; omega, h.2 h2.2⟩
    have hn : e.nodes = 1 + nodesL e.args := by cases e; exact Ex.nodes_mk _ _ _ _
    rw [exprT_eq]
    unfold headT
    have k1 : ∀ x ∈ ([40] : List Nat), x < 256 := by decide
    have k2 : ∀ x ∈ ([32] : List Nat), x < 256 := by decide
    have k3 : ∀ x ∈ ([41] : List Nat), x < 256 := by decide
    split
    · exact ⟨by have := numT_len e.n; omega, numT_lt _⟩
    · split
      · exact ⟨by rw [dayT_len]; omega, dayT_lt _⟩
      · split
        · rename_i h
          exact ⟨by have := free_len (h6 h); omega, free_lt (h6 h)⟩
        · split
          · exact ⟨by simp; omega, by decide⟩
          · have hlen : 1 ≤ e.args.length ∧ e.args.length ≤ 3 := by omega
            obtain ⟨x, r, hx⟩ : ∃ x r, e.args = x :: r := by
              cases hx : e.args with
              | nil => rw [hx] at hlen; simp at hlen
              | cons x r => exact ⟨x, r, rfl⟩
            have px := hpar x (by rw [hx]; exact List.mem_cons_self)
            rw [hx] at hn
            rw [nodesL] at hn
            split
            · rw [hx]
              obtain ⟨p1, p2⟩ := px 6
              refine ⟨by rw [List.length_append]; show _ + (parT 6 (pairT x)).length ≤ _; omega, fun d hd => ?_⟩
              rcases List.mem_append.1 hd with hd | hd
              · exact b2 d hd
              · exact p2 d hd
            · rename_i hp6
              have hbin : (bindT e.op).2 < 6 → ∃ y r', r = y :: r' := fun hlt => by
                have hop : e.op ≤ 18 := by
                  rcases Int.lt_or_le 18 e.op with h | h
                  · exfalso
                    have : e.op = 19 ∨ e.op = 20 ∨ e.op = 21 := by omega
                    rcases this with h | h | h <;> rw [h] at hlt <;> revert hlt <;> decide
                  · exact h
                have := o4 (by omega) hop
                rw [hx] at this
                cases r with
                | nil => simp at this
                | cons y r' => exact ⟨y, r', rfl⟩
              split
              · rename_i hp3
                obtain ⟨y, r', rfl⟩ := hbin (by omega)
                have py := hpar y (by rw [hx]; exact List.mem_cons_of_mem _ List.mem_cons_self)
                rw [nodesL] at hn
                rw [hx]
                obtain ⟨p1, p2⟩ := px 4
                obtain ⟨q1, q2⟩ := py 4
                refine ⟨?_, bt3 (bt3 p2 k2 b2) k2 q2⟩
                simp only [List.length_append, List.length_cons, List.length_nil]
                show (parT 4 (pairT x)).length + _ + _ + _ + (parT 4 (pairT y)).length ≤ _
                omega
              · split
                · rename_i hp5
                  obtain ⟨y, r', rfl⟩ := hbin hp5
                  have py := hpar y (by rw [hx]; exact List.mem_cons_of_mem _ List.mem_cons_self)
                  rw [nodesL] at hn
                  rw [hx]
                  obtain ⟨p1, p2⟩ := px (bindT e.op).2
                  obtain ⟨q1, q2⟩ := py ((bindT e.op).2 + 1)
                  refine ⟨?_, bt3 (bt3 p2 k2 b2) k2 q2⟩
                  simp only [List.length_append, List.length_cons, List.length_nil]
                  show (parT (bindT e.op).2 (pairT x)).length + _ + _ + _ + (parT ((bindT e.op).2 + 1) (pairT y)).length ≤ _
                  omega
                · have hj := joinT_len e.args fun z hz => (harg z hz).1
                  rw [snd_pairT]
                  refine ⟨?_, bt3 ?_ (join_lt fun t ht => ?_) k3⟩
                  · rw [hx, nodesL] at hj
                    rw [hx] at hlen ⊢
                    simp only [List.length_append, List.length_cons, List.length_nil] at hj hlen ⊢
                    split
                    · simp only [List.length_cons, List.length_nil]; omega
                    · split <;> simp only [List.length_cons, List.length_nil] <;> omega
                  · split
                    · decide
                    · split <;> decide
                  · simp only [List.mem_map] at ht
                    obtain ⟨z, hz, rfl⟩ := ht
                    exact (harg z hz).2
end Go.Proofs.Ytijaldpmpjapiaa

namespace Go.Proofs.Ytijaldpmpjapiaa
open Go.RowKit

theorem bind_any (op : Int) (w : World) (ho : I64 op) : Calls Try.prog 45 #[.int .i64 op] w fun e w' => e = .returned (.tuple #[.string (strOf (bindT op).1), .int .i64 (bindT op).2]) ∧ Grow w w' := by
  have bel := Below.refl w.heap.size w
  refine Calls.start 24 Try.func45 rfl rfl rfl ?_
  refine Cd.seq ?_
  refine Cd.region ?_
  refine Seq.val (Runs.assign rfl rfl) rfl rfl rfl ?_
  refine Seq.val (Runs.assign rfl rfl) rfl rfl rfl ?_
  refine Seq.nil ?_
  refine Post.weak (F' := [(0, _), (2, _), (3, _)]) ⟨rfl, rfl, rfl, trivial⟩ ?_
  refine Post.then_ ?_
  refine Cd.seq ?_
  refine Cd.region ?_
  refine Seq.slice (vs := [_, _, _, _, _, _, _, _, _, _, _, _, _, _, _, _]) (s := 1) rfl rfl rfl Try.underlying85 (by kernel_rfl) (zero_string) (by omega) (by omega) ⟨rfl, rfl, rfl, rfl, rfl, rfl, rfl, rfl, rfl, rfl, rfl, rfl, rfl, rfl, rfl, rfl, trivial⟩ rfl rfl rfl ?_
  intro g6 w1 n6
  have e6 := Nat.le_trans bel.size n6.ge
  replace bel := bel.step n6.below
  have k6 := n6.blk
  refine Seq.val (Runs.assign rfl rfl) rfl rfl rfl ?_
  refine Seq.nil ?_
  refine Post.weak (F' := [(0, _), (2, _), (3, _), (4, _)]) ⟨rfl, rfl, rfl, rfl, trivial⟩ ?_
  refine Post.then_ ?_
  refine Cd.seq ?_
  refine Cd.region ?_
  refine Seq.slice (vs := [_, _, _, _, _, _, _, _, _, _, _, _, _, _, _, _]) (s := 1) rfl rfl rfl Try.underlying26 (by kernel_rfl) (zero_int) (by omega) (by omega) ⟨rfl, rfl, rfl, rfl, rfl, rfl, rfl, rfl, rfl, rfl, rfl, rfl, rfl, rfl, rfl, rfl, trivial⟩ rfl rfl rfl ?_
  intro g7 w2 n7
  have e7 := Nat.le_trans bel.size n7.ge
  have l7 := Nat.lt_of_lt_of_le k6.lt n7.ge
  replace bel := bel.step n7.below
  replace k6 := k6.step n7.below
  have k7 := n7.blk
  refine Seq.val (Runs.assign rfl rfl) rfl rfl rfl ?_
  refine Seq.nil ?_
  refine Post.weak (F' := [(0, _), (2, _), (3, _), (4, _), (5, _)]) ⟨rfl, rfl, rfl, rfl, rfl, trivial⟩ ?_
  refine Post.then_ ?_
  refine Cd.seq ?_
  refine Cd.seq ?_
  refine Cd.region ?_
  refine Seq.val (Runs.move rfl rfl) rfl rfl rfl ?_
  refine Seq.val (Runs.lss rfl rfl rfl) rfl rfl rfl ?_
  refine Seq.val (Runs.move rfl rfl) rfl rfl rfl ?_
  refine SeqC.start ?_
  refine SeqC.open rfl rfl rfl rfl rfl rfl rfl (fun hcx => Runs.move rfl rfl) ?_
  refine SeqC.next rfl rfl rfl rfl rfl rfl rfl (fun hcx => Runs.gtr rfl rfl rfl) ?_
  refine SeqC.or rfl rfl rfl rfl rfl rfl rfl ?_
  refine Seq.nil ?_
  refine Post.weak (F' := [(0, _), (2, _), (3, _), (4, _), (5, _), (13, _)]) ⟨rfl, rfl, rfl, rfl, rfl, rfl, trivial⟩ ?_
  refine Post.then_ ?_
  have k6 : Blk w2 g6 9 (signS.map fun s => Value.string (strOf s)).toArray := k6
  have k7 : Blk w2 g7 3 (signP.map fun z => Value.int .i64 z).toArray := k7
  refine Cd.cond rfl (fun hc => ?_) (fun hc => ?_)
  · have hb : bindT op = ([], 7) := by
      unfold bindT
      rw [if_pos]
      simpa using hc
    refine Cd.seq ?_
    refine Cd.region ?_
    refine Seq.val (Runs.assign rfl rfl) rfl rfl rfl ?_
    refine Seq.val (Runs.assign rfl rfl) rfl rfl rfl ?_
    refine Seq.nil ?_
    refine Post.weak (F' := [(0, _), (2, _), (3, _), (4, _), (5, _), (13, _)]) ⟨rfl, rfl, rfl, rfl, rfl, rfl, trivial⟩ ?_
    refine Post.then_ ?_
    refine Cd.ret ?_
    refine Post.then_ret ?_
    refine Post.end2 rfl rfl rfl (.inl rfl) ?_
    rw [hb]
    exact ⟨rfl, bel⟩
  · have hn : ¬ (op < 5 ∨ 20 < op) := by simpa using hc
    have hb : bindT op = (signS.getD (op - 5).toNat [], signP.getD (op - 5).toNat 7) := by unfold bindT; rw [if_neg hn]
    obtain ⟨j, hj⟩ : ∃ j, (op - 5).toNat = j := ⟨_, rfl⟩
    rw [hj] at hb
    have hj16 : j < 16 := by omega
    have hs : (signS.map fun s => Value.string (strOf s)).toArray[j]? = some (.string (strOf (signS.getD j []))) := by
      rw [List.getElem?_toArray, List.getElem?_map, List.getD_eq_getElem?_getD, List.getElem?_eq_getElem (show j < signS.length from hj16)]
      rfl
    have hp : (signP.map fun z => Value.int .i64 z).toArray[j]? = some (.int .i64 (signP.getD j 7)) := by
      rw [List.getElem?_toArray, List.getElem?_map, List.getD_eq_getElem?_getD, List.getElem?_eq_getElem (show j < signP.length from hj16)]
      rfl
    refine Cd.skip ?_
    refine Post.then_ ?_
    refine Cd.seq ?_
    refine Cd.weak (F' := [(0, _), (4, _), (5, _), (13, _)]) ⟨rfl, rfl, rfl, rfl, trivial⟩ ?_
    refine Cd.draw 12 (by kernel_rfl) [] (.inl rfl) rfl Grow Grow.refl (fun _ _ _ => Grow.trans) ?_
    intro w3 hw3 zw3
    replace bel := bel.step hw3
    replace k6 := k6.step hw3
    replace k7 := k7.step hw3
    have zbel := bel.size
    have zlt := k7.lt
    refine Dr.val Grow.refl rfl (fun w hG => Runs.move rfl rfl) rfl ?_
    refine Dr.val Grow.refl rfl (fun w hG => Runs.move rfl rfl) rfl ?_
    refine Dr.val Grow.refl rfl (fun w hG => Runs.subI rfl rfl rfl (by omega) (by omega)) rfl ?_
    refine Dr.val Grow.refl rfl (fun w hG => Runs.indexB rfl rfl rfl Try.underlying85 (by kernel_rfl) (j := j) (by omega) (by omega)) rfl ?_
    refine Dr.val Grow.refl rfl (fun w hG => Runs.loadB rfl rfl Try.underlying9 rfl (k6.step hG) hs) rfl ?_
    refine Dr.val Grow.refl rfl (fun w hG => Runs.move rfl rfl) rfl ?_
    refine Dr.val Grow.refl rfl (fun w hG => Runs.move rfl rfl) rfl ?_
    refine Dr.val Grow.refl rfl (fun w hG => Runs.subI rfl rfl rfl (by omega) (by omega)) rfl ?_
    refine Dr.val Grow.refl rfl (fun w hG => Runs.indexB rfl rfl rfl Try.underlying26 (by kernel_rfl) (j := j) (by omega) (by omega)) rfl ?_
    refine Dr.val Grow.refl rfl (fun w hG => Runs.loadB rfl rfl Try.underlying3 rfl (k7.step hG) hp) rfl ?_
    refine Dr.val Grow.refl rfl (fun w hG => Runs.assign rfl rfl) rfl ?_
    refine Dr.val Grow.refl rfl (fun w hG => Runs.assign rfl rfl) rfl ?_
    refine Dr.nil ?_
    refine FinX.done (F' := [(0, _), (2, _), (3, _), (4, _), (5, _), (13, _)]) rfl ⟨rfl, rfl, rfl, rfl, rfl, rfl, trivial⟩ ?_
    intro w4 hw4 fw4
    replace bel := bel.step hw4
    replace k6 := k6.step hw4
    replace k7 := k7.step hw4
    refine Seq.nil ?_
    refine Post.weak (F' := [(0, _), (2, _), (3, _), (4, _), (5, _), (13, _)]) ⟨rfl, rfl, rfl, rfl, rfl, rfl, trivial⟩ ?_
    refine Post.then_ ?_
    refine Cd.ret ?_
    refine Post.end2 rfl rfl rfl (.inl rfl) ?_
    rw [hb]
    exact ⟨rfl, bel⟩
theorem joinT_take (l : List (List Nat)) (k : Nat) : (joinT (l.take k)).length ≤ (joinT l).length := by
  cases l with
  | nil => simp [joinT]
  | cons s r =>
    cases k with
    | zero => exact Nat.zero_le _
    | succ k =>
      rw [List.take_succ_cons]
      conv => rhs; rw [← List.take_append_drop k r]
      simp only [joinT]
      rw [List.flatMap_append]
      simp only [List.length_append]
      omega
theorem join_any (n c : Nat) (A : Option Addr) (l : List (List Nat)) (w : World) (hr : Reads w w.heap.size 1 A n (l.map fun s => .string (strOf s))) (hn : n ≤ 1000000) (hb : (joinT l).length ≤ 1000000) : Calls Try.prog 49 #[.slice A n c] w fun e w' => e = .returned (.string (strOf (joinT l))) ∧ Grow w w' := by
  have bel := Below.refl w.heap.size w
  have hl : l.length = n := by have := hr.1; simpa using this
  refine Calls.start 22 Try.func49 rfl rfl rfl ?_
  refine Cd.seq ?_
  refine Cd.region ?_
  refine Seq.val (Runs.assign rfl rfl) rfl rfl rfl ?_
  refine Seq.nil ?_
  refine Post.weak (F' := [(0, _), (2, _)]) ⟨rfl, rfl, trivial⟩ ?_
  refine Post.then_ ?_
  refine Cd.seq ?_
  refine Cd.region ?_
  refine Seq.val (Runs.assign rfl rfl) rfl rfl rfl ?_
  refine Seq.nil ?_
  refine Post.weak (F' := [(0, _), (2, _), (3, _)]) ⟨rfl, rfl, rfl, trivial⟩ ?_
  refine Post.then_ ?_
  refine Cd.seq ?_
  refine Cd.seq ?_
  refine Cd.region ?_
  refine Seq.val (Runs.assign rfl rfl) rfl rfl rfl ?_
  refine Seq.nil ?_
  refine Post.weak (F' := [(0, _), (2, _), (3, _), (4, _)]) ⟨rfl, rfl, rfl, rfl, trivial⟩ ?_
  refine Post.then_ ?_
  refine Cd.block ?_
  refine Cd.loop (σ := Nat) (fun k => [(0, .slice A n c), (3, .string (strOf (joinT (l.take k)))), (4, .int .i64 (k : Int))]) (fun k wr => k ≤ n ∧ Below w.heap.size w wr) (fun k => n - k) 0 ⟨Nat.zero_le _, bel⟩ ⟨rfl, rfl, rfl, trivial⟩ ?_
  clear bel
  rintro k wr ⟨hk, bel⟩
  have hbk := joinT_take l k
  have hbk1 := joinT_take l (k + 1)
  refine Cd.seq ?_
  refine Cd.seq ?_
  refine Cd.region ?_
  refine Seq.val (Runs.move rfl rfl) rfl rfl rfl ?_
  refine Seq.val (Runs.move rfl rfl) rfl rfl rfl ?_
  refine Seq.val (Runs.len rfl rfl Try.underlying85) rfl rfl rfl ?_
  refine Seq.val (Runs.lss rfl rfl rfl) rfl rfl rfl ?_
  refine Seq.nil ?_
  refine Post.weak (F' := [(0, _), (3, _), (4, _), (8, _)]) ⟨rfl, rfl, rfl, rfl, trivial⟩ ?_
  refine Post.then_ ?_
  refine Cd.condD rfl (fun hc => ?_) (fun hc => ?_)
  · obtain ⟨x, hx⟩ : ∃ x, l[k]? = some x := ⟨_, List.getElem?_eq_getElem (by omega)⟩
    have htk : l.take (k + 1) = l.take k ++ [x] := by rw [List.take_add_one, hx]; rfl
    obtain ⟨ad, rfl, hbl, hcl⟩ := hr.2 (by omega)
    have hcl := (bel.cell (p := ad.add k) (by rw [block_of_add]; exact hbl)).trans (hcl k (.string (strOf x)) (by rw [List.getElem?_map, hx]; rfl))
    rw [htk, joinT_snoc] at hbk1
    refine Cd.skip ?_
    refine Post.then_ ?_
    refine Cd.seq ?_
    refine Cd.block ?_
    refine Cd.seq ?_
    refine Cd.seq ?_
    refine Cd.region ?_
    refine Seq.val (Runs.move rfl rfl) rfl rfl rfl ?_
    refine Seq.val (Runs.gtr rfl rfl rfl) rfl rfl rfl ?_
    refine Seq.nil ?_
    refine Post.weak (F' := [(0, _), (3, _), (4, _), (8, _), (12, _)]) ⟨rfl, rfl, rfl, rfl, rfl, trivial⟩ ?_
    refine Post.then_ ?_
    refine Cd.condD rfl (fun hc => ?_) (fun hc => ?_)
    · have hne : l.take k ≠ [] := fun h0 => by have := congrArg List.length h0; rw [List.length_take, List.length_nil] at this; omega
      rw [if_neg hne] at hbk1
      simp only [List.length_append, List.length_cons, List.length_nil] at hbk1
      refine Cd.region ?_
      refine Seq.val (Runs.move rfl rfl) rfl rfl rfl ?_
      refine Seq.val (Runs.addL (b := [44, 32]) rfl rfl rfl (by simp only [List.length_cons, List.length_nil]; omega)) rfl rfl rfl ?_
      refine Seq.val (Runs.assign rfl rfl) rfl rfl rfl ?_
      refine Seq.nil ?_
      refine Post.weak (F' := [(0, _), (3, _), (4, _), (8, _), (12, _)]) ⟨rfl, rfl, rfl, rfl, rfl, trivial⟩ ?_
      refine Post.then_ ?_
      refine Cd.region ?_
      refine Seq.val (Runs.move rfl rfl) rfl rfl rfl ?_
      refine Seq.val (Runs.move rfl rfl) rfl rfl rfl ?_
      refine Seq.val (Runs.move rfl rfl) rfl rfl rfl ?_
      refine Seq.val (Runs.index1 rfl rfl rfl Try.underlying85 (by kernel_rfl) (j := k) rfl (by omega)) rfl rfl rfl ?_
      refine Seq.val (Runs.load1 rfl rfl Try.underlying9 rfl hcl) rfl rfl rfl ?_
      refine Seq.val ((Runs.addL rfl rfl rfl (by simp only [List.length_append, List.length_cons, List.length_nil]; omega)).cast (v' := .string (strOf (joinT (l.take (k + 1))))) (by rw [htk, joinT_snoc, if_neg hne])) rfl rfl rfl ?_
      refine Seq.val (Runs.assign rfl rfl) rfl rfl rfl ?_
      refine Seq.nil ?_
      refine Post.weak (F' := [(0, _), (3, _), (4, _), (8, _), (12, _)]) ⟨rfl, rfl, rfl, rfl, rfl, trivial⟩ ?_
      refine Post.block_normal ?_
      refine Post.then_ ?_
      refine Cd.region ?_
      refine Seq.val (Runs.move rfl rfl) rfl rfl rfl ?_
      refine Seq.val (Runs.addI rfl rfl rfl (by omega) (by omega)) rfl rfl rfl ?_
      refine Seq.val (Runs.assign rfl rfl) rfl rfl rfl ?_
      refine Seq.nil ?_
      refine Post.weak (F' := [(0, _), (3, _), (4, _), (8, _), (12, _)]) ⟨rfl, rfl, rfl, rfl, rfl, trivial⟩ ?_
      exact Post.round (k + 1) ⟨rfl, rfl, rfl, trivial⟩ ⟨by omega, bel⟩ (by omega)
    · obtain rfl : k = 0 := by omega
      simp only [List.take_zero, if_true] at hbk1
      refine Cd.skip ?_
      refine Post.then_ ?_
      refine Cd.region ?_
      refine Seq.val (Runs.move rfl rfl) rfl rfl rfl ?_
      refine Seq.val (Runs.move rfl rfl) rfl rfl rfl ?_
      refine Seq.val (Runs.move rfl rfl) rfl rfl rfl ?_
      refine Seq.val (Runs.index1 rfl rfl rfl Try.underlying85 (by kernel_rfl) (j := 0) rfl (by omega)) rfl rfl rfl ?_
      refine Seq.val (Runs.load1 rfl rfl Try.underlying9 rfl hcl) rfl rfl rfl ?_
      refine Seq.val ((Runs.addL (a := []) (b := x) rfl rfl rfl (by simp only [List.length_nil]; omega)).cast (v' := .string (strOf (joinT (l.take (0 + 1))))) (by rw [htk]; simp [joinT])) rfl rfl rfl ?_
      refine Seq.val (Runs.assign rfl rfl) rfl rfl rfl ?_
      refine Seq.nil ?_
      refine Post.weak (F' := [(0, _), (3, _), (4, _), (8, _), (12, _)]) ⟨rfl, rfl, rfl, rfl, rfl, trivial⟩ ?_
      refine Post.block_normal ?_
      refine Post.then_ ?_
      refine Cd.region ?_
      refine Seq.val (Runs.move rfl rfl) rfl rfl rfl ?_
      refine Seq.val (Runs.addI rfl rfl rfl (by omega) (by omega)) rfl rfl rfl ?_
      refine Seq.val (Runs.assign rfl rfl) rfl rfl rfl ?_
      refine Seq.nil ?_
      refine Post.weak (F' := [(0, _), (3, _), (4, _), (8, _), (12, _)]) ⟨rfl, rfl, rfl, rfl, rfl, trivial⟩ ?_
      exact Post.round 1 ⟨rfl, rfl, rfl, trivial⟩ ⟨by omega, bel⟩ (by omega)
  · obtain rfl : k = n := by omega
    refine Cd.exit ?_
    refine Post.then_exit ?_
    refine Post.round_exit ?_
    refine Post.block_exit ?_
    refine Post.then_ ?_
    refine Cd.seq ?_
    refine Cd.region ?_
    refine Seq.val (Runs.move rfl rfl) rfl rfl rfl ?_
    refine Seq.val (Runs.assign rfl rfl) rfl rfl rfl ?_
    refine Seq.nil ?_
    refine Post.weak (F' := [(0, _), (2, _), (3, _), (4, _), (8, _)]) ⟨rfl, rfl, rfl, rfl, rfl, trivial⟩ ?_
    refine Post.then_ ?_
    refine Cd.ret ?_
    refine Post.end1 rfl rfl (.inl rfl) ?_
    rw [List.take_of_length_le (by omega)]
    exact ⟨rfl, bel⟩
end Go.Proofs.Ytijaldpmpjapiaa

namespace Go.Proofs.Ytijaldpmpjapiaa
open Go.RowKit

theorem refIn_of (x : Ex) (least : Int) (A : Option Addr) (c : Nat) (w : World) (ho : I64 x.op) (hl : (exprT x).length ≤ 100000) (hE : ∀ W, Below w.heap.size w W → Calls Try.prog 17 #[.agg #[.int .i64 x.op, .int .i64 x.n, .string (strOf x.name), .slice A x.args.length c]] W fun en w' => en = .returned (.string (strOf (exprT x))) ∧ Grow W w') :
    Calls Try.prog 48 #[.agg #[.int .i64 x.op, .int .i64 x.n, .string (strOf x.name), .slice A x.args.length c], .int .i64 least] w fun en w' => en = .returned (.string (strOf (inT x least))) ∧ Grow w w' := by
  have bel := Below.refl w.heap.size w
  refine Calls.start 22 Try.func48 rfl rfl rfl ?_
  refine Cd.seq ?_
  refine Cd.region ?_
  refine Seq.box rfl rfl rfl rfl rfl ?_
  intro g2 w1 n2
  have e2 := Nat.le_trans bel.size n2.ge
  replace bel := bel.step n2.below
  have k2 := n2.blk
  refine Seq.val (Runs.assign rfl rfl) rfl rfl rfl ?_
  refine Seq.nil ?_
  refine Post.weak (F' := [(0, _), (1, _), (2, _), (4, _)]) ⟨rfl, rfl, rfl, rfl, trivial⟩ ?_
  refine Post.then_ ?_
  refine Cd.seq ?_
  refine Cd.region ?_
  refine Seq.val (Runs.fieldB 0 rfl rfl Try.underlying35 rfl (by kernel_rfl)) rfl rfl rfl ?_
  refine Seq.val (Runs.loadB rfl rfl Try.underlying3 rfl k2 rfl) rfl rfl rfl ?_
  refine Seq.call (Enters.func rfl rfl rfl (run_enter Try.func45 (by kernel_rfl) rfl)) rfl rfl rfl (bind_any x.op _ ho) ?_
  rintro en w5 ⟨rfl, hb5⟩
  refine ⟨_, rfl, ?_⟩
  replace bel := bel.step hb5
  replace k2 := k2.step hb5
  refine Seq.val (Runs.move rfl rfl) rfl rfl rfl ?_
  refine Seq.val (Runs.extract rfl rfl rfl) rfl rfl rfl ?_
  refine Seq.val (Runs.extract rfl rfl rfl) rfl rfl rfl ?_
  refine Seq.val (Runs.assign rfl rfl) rfl rfl rfl ?_
  refine Seq.val (Runs.assign rfl rfl) rfl rfl rfl ?_
  refine Seq.nil ?_
  refine Post.weak (F' := [(0, _), (1, _), (2, _), (4, _), (6, _)]) ⟨rfl, rfl, rfl, rfl, rfl, trivial⟩ ?_
  refine Post.then_ ?_
  refine Cd.seq ?_
  refine Cd.seq ?_
  refine Cd.region ?_
  refine Seq.val (Runs.move rfl rfl) rfl rfl rfl ?_
  refine Seq.val (Runs.move rfl rfl) rfl rfl rfl ?_
  refine Seq.val (Runs.lss rfl rfl rfl) rfl rfl rfl ?_
  refine Seq.nil ?_
  refine Post.weak (F' := [(0, _), (1, _), (2, _), (4, _), (6, _), (15, _)]) ⟨rfl, rfl, rfl, rfl, rfl, rfl, trivial⟩ ?_
  refine Post.then_ ?_
  refine Cd.condD rfl (fun hc => ?_) (fun hc => ?_)
  · skip
    refine Cd.seq ?_
    refine Cd.region ?_
    refine Seq.val (Runs.loadW rfl rfl Try.underlying35 rfl k2 (m := 4) (by kernel_rfl) rfl) rfl rfl rfl ?_
    refine Seq.call (Enters.func rfl rfl rfl (run_enter Try.func17 (by kernel_rfl) rfl)) rfl rfl rfl (hE _ bel) ?_
    rintro en w6 ⟨rfl, hb6⟩
    refine ⟨_, rfl, ?_⟩
    replace bel := bel.step hb6
    replace k2 := k2.step hb6
    refine Seq.val (Runs.addL (a := [40]) rfl rfl rfl (by simp only [List.length_cons, List.length_nil]; omega)) rfl rfl rfl ?_
    refine Seq.val (Runs.addL (b := [41]) rfl rfl rfl (by simp only [List.length_append, List.length_cons, List.length_nil]; omega)) rfl rfl rfl ?_
    refine Seq.val (Runs.assign rfl rfl) rfl rfl rfl ?_
    refine Seq.nil ?_
    refine Post.weak (F' := [(0, _), (1, _), (2, _), (4, _), (6, _), (15, _)]) ⟨rfl, rfl, rfl, rfl, rfl, rfl, trivial⟩ ?_
    refine Post.then_ ?_
    refine Cd.ret ?_
    refine Post.then_ret ?_
    refine Post.end1 rfl rfl (.inl rfl) ?_
    unfold inT parT
    rw [if_pos (show (pairT x).1 < least from hc)]
    exact ⟨rfl, bel⟩
  · skip
    refine Cd.skip ?_
    refine Post.then_ ?_
    refine Cd.seq ?_
    refine Cd.region ?_
    refine Seq.val (Runs.loadW rfl rfl Try.underlying35 rfl k2 (m := 4) (by kernel_rfl) rfl) rfl rfl rfl ?_
    refine Seq.call (Enters.func rfl rfl rfl (run_enter Try.func17 (by kernel_rfl) rfl)) rfl rfl rfl (hE _ bel) ?_
    rintro en w6 ⟨rfl, hb6⟩
    refine ⟨_, rfl, ?_⟩
    replace bel := bel.step hb6
    replace k2 := k2.step hb6
    refine Seq.val (Runs.assign rfl rfl) rfl rfl rfl ?_
    refine Seq.nil ?_
    refine Post.weak (F' := [(0, _), (1, _), (2, _), (4, _), (6, _), (15, _)]) ⟨rfl, rfl, rfl, rfl, rfl, rfl, trivial⟩ ?_
    refine Post.then_ ?_
    refine Cd.ret ?_
    refine Post.end1 rfl rfl (.inl rfl) ?_
    unfold inT parT
    rw [if_neg (show ¬ (pairT x).1 < least from hc)]
    exact ⟨rfl, bel⟩
theorem refExpr_any (N : Nat) : ∀ (e : Ex) (B : Nat) (v : Value) (w : World), e.nodes ≤ N → e.nodes ≤ 200 → builtB e = true → Rep w B e v → B ≤ w.heap.size → Calls Try.prog 17 #[v] w fun en w' => en = .returned (.string (strOf (exprT e))) ∧ Grow w w' := by
  induction N with
  | zero => intro e B v w hN; have := e.nodes_pos; omega
  | succ N ih =>
  intro e B v w hN h200 hbt hrep hB
  obtain ⟨A, c, rfl, hv⟩ := hrep.open
  have hbd := exprT_bd e.nodes e (Nat.le_refl _) hbt
  obtain ⟨hh, hargs⟩ := builtB_inv hbt
  obtain ⟨h1, h2, h3, h4, h5, h6⟩ := headB_inv hh
  obtain ⟨o1, o2, o3, o4, o5, o6⟩ := arity_op h1
  obtain ⟨b1, b2, b3, b4⟩ := bindT_len e.op
  have hT := exprT_eq e
  unfold headT at hT
  have hrec : ∀ i x, e.args[i]? = some x → ∃ ad A' c', A = some ad ∧ x.nodes ≤ 200 ∧ (exprT x).length ≤ 50 * x.nodes ∧ I64 x.op ∧
      (∀ W, Below w.heap.size w W → ∀ (j : Nat) (u : Value), ([.int .i64 x.op, .int .i64 x.n, .string (strOf x.name), .slice A' x.args.length c'] : List Value)[j]? = some u → W.cell? ((ad.add (i * 4)).add j) = some u) ∧
      (∀ W, Below w.heap.size w W → Calls Try.prog 17 #[.agg #[.int .i64 x.op, .int .i64 x.n, .string (strOf x.name), .slice A' x.args.length c']] W fun en w' => en = .returned (.string (strOf (exprT x))) ∧ Grow W w') := fun i x hx => by
    obtain ⟨ad, A', c', e1, e2, e3, e4⟩ := hv.arg i x hx
    have hmem := List.mem_of_getElem? hx
    have hnd := Ex.arg_nodes hmem
    have hbx := hargs x hmem
    obtain ⟨_, _, -, hvx⟩ := e3.open
    exact ⟨ad, A', c', e1, by omega, (exprT_bd x.nodes x (Nat.le_refl _) hbx).1, hvx.op, fun W hb j u hu => (hb.cell (by rw [block_of_add, block_of_add]; omega)).trans (e4 j u hu), fun W hb => ih x B _ W (by omega) (by omega) hbx (e3.below (hb.mono hB)) (Nat.le_trans hB hb.size)⟩
  have bel := Below.refl w.heap.size w
  refine Calls.start 120 Try.func17 rfl rfl rfl ?_
  refine Cd.seq ?_
  refine Cd.region ?_
  refine Seq.box rfl rfl rfl rfl rfl ?_
  intro g1 w1 n1
  have e1 := Nat.le_trans bel.size n1.ge
  replace bel := bel.step n1.below
  have k1 := n1.blk
  refine Seq.val (Runs.assign rfl rfl) rfl rfl rfl ?_
  refine Seq.nil ?_
  refine Post.weak (F' := [(0, _), (1, _), (2, _)]) ⟨rfl, rfl, rfl, trivial⟩ ?_
  refine Post.then_ ?_
  refine Cd.seq ?_
  refine Cd.region ?_
  refine Seq.val (Runs.fieldB 0 rfl rfl Try.underlying35 rfl (by kernel_rfl)) rfl rfl rfl ?_
  refine Seq.val (Runs.loadB rfl rfl Try.underlying3 rfl k1 rfl) rfl rfl rfl ?_
  refine Seq.call (Enters.func rfl rfl rfl (run_enter Try.func45 (by kernel_rfl) rfl)) rfl rfl rfl (bind_any e.op _ hv.op) ?_
  rintro en w5 ⟨rfl, hb5⟩
  refine ⟨_, rfl, ?_⟩
  replace bel := bel.step hb5
  replace k1 := k1.step hb5
  refine Seq.val (Runs.move rfl rfl) rfl rfl rfl ?_
  refine Seq.val (Runs.extract rfl rfl rfl) rfl rfl rfl ?_
  refine Seq.val (Runs.extract rfl rfl rfl) rfl rfl rfl ?_
  refine Seq.val (Runs.assign rfl rfl) rfl rfl rfl ?_
  refine Seq.val (Runs.assign rfl rfl) rfl rfl rfl ?_
  refine Seq.nil ?_
  refine Post.weak (F' := [(0, _), (1, _), (2, _), (3, _), (4, _)]) ⟨rfl, rfl, rfl, rfl, rfl, trivial⟩ ?_
  refine Post.then_ ?_
  refine Cd.seq ?_
  refine Cd.block ?_
  refine Cd.seq ?_
  refine Cd.region ?_
  refine Seq.val (Runs.fieldB 0 rfl rfl Try.underlying35 rfl (by kernel_rfl)) rfl rfl rfl ?_
  refine Seq.val (Runs.loadB rfl rfl Try.underlying3 rfl k1 rfl) rfl rfl rfl ?_
  refine Seq.val (Runs.eqlI rfl rfl rfl) rfl rfl rfl ?_
  refine Seq.val (Runs.assign rfl rfl) rfl rfl rfl ?_
  refine Seq.nil ?_
  refine Post.weak (F' := [(0, _), (1, _), (2, _), (3, _), (4, _), (13, _)]) ⟨rfl, rfl, rfl, rfl, rfl, rfl, trivial⟩ ?_
  refine Post.then_ ?_
  refine Cd.condD rfl (fun c1 => ?_) (fun c1 => ?_)
  · rw [if_pos c1] at hT
    refine Cd.seq ?_
    refine Cd.region ?_
    refine Seq.val (Runs.fieldB 1 rfl rfl Try.underlying35 rfl (by kernel_rfl)) rfl rfl rfl ?_
    refine Seq.val (Runs.loadB rfl rfl Try.underlying2 rfl k1 rfl) rfl rfl rfl ?_
    refine Seq.call (Enters.func rfl rfl rfl (run_enter Try.func46 (by kernel_rfl) rfl)) rfl rfl rfl (refNumPrintC e.n _ hv.n) ?_
    rintro en w6 ⟨rfl, hb6⟩
    refine ⟨_, rfl, ?_⟩
    replace bel := bel.step hb6
    replace k1 := k1.step hb6
    refine Seq.val (Runs.assign rfl rfl) rfl rfl rfl ?_
    refine Seq.nil ?_
    refine Post.weak (F' := [(0, _), (1, _), (2, _), (3, _), (4, _), (13, _)]) ⟨rfl, rfl, rfl, rfl, rfl, rfl, trivial⟩ ?_
    refine Post.then_ ?_
    refine Cd.ret ?_
    refine Post.block_ret ?_
    refine Post.then_ret ?_
    refine Post.end1 rfl rfl (.inl rfl) ?_
    rw [hT]
    exact ⟨rfl, bel⟩
  rw [if_neg c1] at hT
  refine Cd.seq ?_
  refine Cd.region ?_
  refine Seq.val (Runs.fieldB 0 rfl rfl Try.underlying35 rfl (by kernel_rfl)) rfl rfl rfl ?_
  refine Seq.val (Runs.loadB rfl rfl Try.underlying3 rfl k1 rfl) rfl rfl rfl ?_
  refine Seq.val (Runs.eqlI rfl rfl rfl) rfl rfl rfl ?_
  refine Seq.val (Runs.assign rfl rfl) rfl rfl rfl ?_
  refine Seq.nil ?_
  refine Post.weak (F' := [(0, _), (1, _), (2, _), (3, _), (4, _), (13, _), (20, _)]) ⟨rfl, rfl, rfl, rfl, rfl, rfl, rfl, trivial⟩ ?_
  refine Post.then_ ?_
  refine Cd.condD rfl (fun c2 => ?_) (fun c2 => ?_)
  · rw [if_pos c2] at hT
    have hday : ∀ W, Calls Try.prog 47 #[.int .i64 e.n] W fun e1 w' => e1 = .returned (.string (strOf (dayT e.n.toNat))) ∧ Grow W w' := fun W => by
      have := refDayC e.n.toNat W (by have := h5 c2; omega)
      rwa [Int.toNat_of_nonneg h4] at this
    refine Cd.seq ?_
    refine Cd.region ?_
    refine Seq.val (Runs.fieldB 1 rfl rfl Try.underlying35 rfl (by kernel_rfl)) rfl rfl rfl ?_
    refine Seq.val (Runs.loadB rfl rfl Try.underlying2 rfl k1 rfl) rfl rfl rfl ?_
    refine Seq.call (Enters.func rfl rfl rfl (run_enter Try.func47 (by kernel_rfl) rfl)) rfl rfl rfl (hday _) ?_
    rintro en w6 ⟨rfl, hb6⟩
    refine ⟨_, rfl, ?_⟩
    replace bel := bel.step hb6
    replace k1 := k1.step hb6
    refine Seq.val (Runs.assign rfl rfl) rfl rfl rfl ?_
    refine Seq.nil ?_
    refine Post.weak (F' := [(0, _), (1, _), (2, _), (3, _), (4, _), (13, _), (20, _)]) ⟨rfl, rfl, rfl, rfl, rfl, rfl, rfl, trivial⟩ ?_
    refine Post.then_ ?_
    refine Cd.ret ?_
    refine Post.block_ret ?_
    refine Post.then_ret ?_
    refine Post.end1 rfl rfl (.inl rfl) ?_
    rw [hT]
    exact ⟨rfl, bel⟩
  rw [if_neg c2] at hT
  refine Cd.seq ?_
  refine Cd.region ?_
  refine Seq.val (Runs.fieldB 0 rfl rfl Try.underlying35 rfl (by kernel_rfl)) rfl rfl rfl ?_
  refine Seq.val (Runs.loadB rfl rfl Try.underlying3 rfl k1 rfl) rfl rfl rfl ?_
  refine Seq.val (Runs.eqlI rfl rfl rfl) rfl rfl rfl ?_
  refine Seq.val (Runs.assign rfl rfl) rfl rfl rfl ?_
  refine Seq.nil ?_
  refine Post.weak (F' := [(0, _), (1, _), (2, _), (3, _), (4, _), (13, _), (20, _), (27, _)]) ⟨rfl, rfl, rfl, rfl, rfl, rfl, rfl, rfl, trivial⟩ ?_
  refine Post.then_ ?_
  refine Cd.condD rfl (fun c3 => ?_) (fun c3 => ?_)
  · rw [if_pos c3] at hT
    refine Cd.seq ?_
    refine Cd.region ?_
    refine Seq.val (Runs.fieldB 2 rfl rfl Try.underlying35 rfl (by kernel_rfl)) rfl rfl rfl ?_
    refine Seq.val (Runs.loadB rfl rfl Try.underlying9 rfl k1 rfl) rfl rfl rfl ?_
    refine Seq.val (Runs.assign rfl rfl) rfl rfl rfl ?_
    refine Seq.nil ?_
    refine Post.weak (F' := [(0, _), (1, _), (2, _), (3, _), (4, _), (13, _), (20, _), (27, _)]) ⟨rfl, rfl, rfl, rfl, rfl, rfl, rfl, rfl, trivial⟩ ?_
    refine Post.then_ ?_
    refine Cd.ret ?_
    refine Post.block_ret ?_
    refine Post.then_ret ?_
    refine Post.end1 rfl rfl (.inl rfl) ?_
    rw [hT]
    exact ⟨rfl, bel⟩
  rw [if_neg c3] at hT
  refine Cd.seq ?_
  refine Cd.region ?_
  refine Seq.val (Runs.fieldB 0 rfl rfl Try.underlying35 rfl (by kernel_rfl)) rfl rfl rfl ?_
  refine Seq.val (Runs.loadB rfl rfl Try.underlying3 rfl k1 rfl) rfl rfl rfl ?_
  refine Seq.val (Runs.eqlI rfl rfl rfl) rfl rfl rfl ?_
  refine Seq.val (Runs.assign rfl rfl) rfl rfl rfl ?_
  refine Seq.nil ?_
  refine Post.weak (F' := [(0, _), (1, _), (2, _), (3, _), (4, _), (13, _), (20, _), (27, _), (33, _)]) ⟨rfl, rfl, rfl, rfl, rfl, rfl, rfl, rfl, rfl, trivial⟩ ?_
  refine Post.then_ ?_
  refine Cd.condD rfl (fun c4 => ?_) (fun c4 => ?_)
  · rw [if_pos c4] at hT
    refine Cd.seq ?_
    refine Cd.region ?_
    refine Seq.val (Runs.assign rfl rfl) rfl rfl rfl ?_
    refine Seq.nil ?_
    refine Post.weak (F' := [(0, _), (1, _), (2, _), (3, _), (4, _), (13, _), (20, _), (27, _), (33, _)]) ⟨rfl, rfl, rfl, rfl, rfl, rfl, rfl, rfl, rfl, trivial⟩ ?_
    refine Post.then_ ?_
    refine Cd.ret ?_
    refine Post.block_ret ?_
    refine Post.then_ret ?_
    refine Post.end1 rfl rfl (.inl rfl) ?_
    rw [hT]
    exact ⟨rfl, bel⟩
  rw [if_neg c4] at hT
  obtain ⟨x, r, hxr⟩ : ∃ x r, e.args = x :: r := by
    have : e.args.length ≠ 0 := by omega
    cases hx : e.args with
    | nil => rw [hx] at this; simp at this
    | cons x r => exact ⟨x, r, rfl⟩
  obtain ⟨ad, A0, c0, hAd, x1, x2, x3, x4, x5⟩ := hrec 0 x (by rw [hxr]; rfl)
  subst hAd
  have hlen : 1 ≤ e.args.length := by rw [hxr]; simp
  have hg0 : (e.args.map pairT).getD 0 (7, []) = pairT x := by rw [hxr]; rfl
  rw [hg0] at hT
  have hin0 : ∀ W least, Below w.heap.size w W → Calls Try.prog 48 #[.agg #[.int .i64 x.op, .int .i64 x.n, .string (strOf x.name), .slice A0 x.args.length c0], .int .i64 least] W fun en w' => en = .returned (.string (strOf (inT x least))) ∧ Grow W w' := fun W least hb => refIn_of x least A0 c0 W x3 (by omega) fun W2 hb2 => x5 W2 (hb.step hb2)
  have hil0 : ∀ least, (inT x least).length ≤ 20000 := fun least => by have := (parT_len least (pairT x)).1; have e1 : (pairT x).2 = exprT x := rfl; rw [e1] at this; unfold inT; omega
  refine Cd.seq ?_
  refine Cd.region ?_
  refine Seq.val (Runs.move rfl rfl) rfl rfl rfl ?_
  refine Seq.val (Runs.eqlI rfl rfl rfl) rfl rfl rfl ?_
  refine Seq.val (Runs.assign rfl rfl) rfl rfl rfl ?_
  refine Seq.nil ?_
  refine Post.weak (F' := [(0, _), (1, _), (2, _), (3, _), (4, _), (13, _), (20, _), (27, _), (33, _), (37, _)]) ⟨rfl, rfl, rfl, rfl, rfl, rfl, rfl, rfl, rfl, rfl, trivial⟩ ?_
  refine Post.then_ ?_
  refine Cd.condD rfl (fun c5 => ?_) (fun c5 => ?_)
  · rw [if_pos c5] at hT
    refine Cd.seq ?_
    refine Cd.region ?_
    refine Seq.val (Runs.move rfl rfl) rfl rfl rfl ?_
    refine Seq.val (Runs.fieldB 3 rfl rfl Try.underlying35 rfl (by kernel_rfl)) rfl rfl rfl ?_
    refine Seq.val (Runs.loadB rfl rfl Try.underlying25 rfl k1 rfl) rfl rfl rfl ?_
    refine Seq.val (Runs.indexN rfl rfl rfl Try.underlying25 (s := 4) (by kernel_rfl) (j := 0) rfl (by omega)) rfl rfl rfl ?_
    refine Seq.val (Runs.loadF (ps := [.int .i64 x.op, .int .i64 x.n, .string (strOf x.name), .slice A0 x.args.length c0]) rfl rfl Try.underlying35 rfl (m := 4) (by kernel_rfl) rfl (x4 _ bel)) rfl rfl rfl ?_
    refine Seq.call (Enters.func rfl rfl rfl (run_enter Try.func48 (by kernel_rfl) rfl)) rfl rfl rfl (hin0 _ 6 bel) ?_
    rintro en w6 ⟨rfl, hb6⟩
    refine ⟨_, rfl, ?_⟩
    replace bel := bel.step hb6
    replace k1 := k1.step hb6
    have hi6 := hil0 6
    refine Seq.val (Runs.addL rfl rfl rfl (by omega)) rfl rfl rfl ?_
    refine Seq.val (Runs.assign rfl rfl) rfl rfl rfl ?_
    refine Seq.nil ?_
    refine Post.weak (F' := [(0, _), (1, _), (2, _), (3, _), (4, _), (13, _), (20, _), (27, _), (33, _), (37, _)]) ⟨rfl, rfl, rfl, rfl, rfl, rfl, rfl, rfl, rfl, rfl, trivial⟩ ?_
    refine Post.then_ ?_
    refine Cd.ret ?_
    refine Post.block_ret ?_
    refine Post.then_ret ?_
    refine Post.end1 rfl rfl (.inl rfl) ?_
    rw [hT]
    exact ⟨rfl, bel⟩
  rw [if_neg c5] at hT
  refine Cd.seq ?_
  refine Cd.region ?_
  refine Seq.val (Runs.move rfl rfl) rfl rfl rfl ?_
  refine Seq.val (Runs.eqlI rfl rfl rfl) rfl rfl rfl ?_
  refine Seq.val (Runs.assign rfl rfl) rfl rfl rfl ?_
  refine Seq.nil ?_
  refine Post.weak (F' := [(0, _), (1, _), (2, _), (3, _), (4, _), (13, _), (20, _), (27, _), (33, _), (37, _), (47, _)]) ⟨rfl, rfl, rfl, rfl, rfl, rfl, rfl, rfl, rfl, rfl, rfl, trivial⟩ ?_
  refine Post.then_ ?_
  have hbin : (bindT e.op).2 < 6 → ∃ y r', r = y :: r' := fun hlt => by
    have hop : e.op ≤ 18 := by
      rcases Int.lt_or_le 18 e.op with h | h
      · exfalso
        have : e.op = 19 ∨ e.op = 20 ∨ e.op = 21 := by omega
        rcases this with h | h | h <;> rw [h] at hlt <;> revert hlt <;> decide
      · exact h
    have := o4 (by omega) hop
    rw [hxr] at this
    cases r with
    | nil => simp at this
    | cons y r' => exact ⟨y, r', rfl⟩
  refine Cd.condD rfl (fun c6 => ?_) (fun c6 => ?_)
  · rw [if_pos c6] at hT
    obtain ⟨y, r', rfl⟩ := hbin (by omega)
    obtain ⟨ad', A1, c1', hAd, y1, y2, y3, y4, y5⟩ := hrec 1 y (by rw [hxr]; rfl)
    injection hAd with hAd
    subst hAd
    have hlen2 : 2 ≤ e.args.length := by rw [hxr]; simp
    have hg1 : (e.args.map pairT).getD 1 (7, []) = pairT y := by rw [hxr]; rfl
    rw [hg1] at hT
    have hin1 : ∀ W least, Below w.heap.size w W → Calls Try.prog 48 #[.agg #[.int .i64 y.op, .int .i64 y.n, .string (strOf y.name), .slice A1 y.args.length c1'], .int .i64 least] W fun en w' => en = .returned (.string (strOf (inT y least))) ∧ Grow W w' := fun W least hb => refIn_of y least A1 c1' W y3 (by omega) fun W2 hb2 => y5 W2 (hb.step hb2)
    have hil1 : ∀ least, (inT y least).length ≤ 20000 := fun least => by have := (parT_len least (pairT y)).1; have e1 : (pairT y).2 = exprT y := rfl; rw [e1] at this; unfold inT; omega
    have i0 := hil0 4
    have i1 := hil1 4
    refine Cd.seq ?_
    refine Cd.weak (F' := [(0, _), (1, _), (3, _), (4, _), (13, _), (20, _), (27, _), (33, _), (37, _), (47, _)]) ⟨rfl, rfl, rfl, rfl, rfl, rfl, rfl, rfl, rfl, rfl, trivial⟩ ?_
    refine Cd.draw 16 (by kernel_rfl) [] (.inl rfl) rfl Grow Grow.refl (fun _ _ _ => Grow.trans) ?_
    intro w2 hw2 zw2
    replace bel := bel.step hw2
    replace k1 := k1.step hw2
    have zbel := bel.size
    have zlt := k1.lt
    refine Dr.val Grow.refl rfl (fun w hG => Runs.fieldB 3 rfl rfl Try.underlying35 rfl (by kernel_rfl)) rfl ?_
    refine Dr.val Grow.refl rfl (fun w hG => Runs.loadB rfl rfl Try.underlying25 rfl (k1.step hG) rfl) rfl ?_
    refine Dr.val Grow.refl rfl (fun w hG => Runs.indexN rfl rfl rfl Try.underlying25 (s := 4) (by kernel_rfl) (j := 0) rfl (by omega)) rfl ?_
    refine Dr.val Grow.refl rfl (fun w hG => Runs.loadF (ps := [.int .i64 x.op, .int .i64 x.n, .string (strOf x.name), .slice A0 x.args.length c0]) rfl rfl Try.underlying35 rfl (m := 4) (by kernel_rfl) rfl (x4 _ (bel.step hG))) rfl ?_
    refine Dr.callV rfl (fun w => Enters.func rfl rfl rfl (run_enter Try.func48 (by kernel_rfl) rfl)) rfl (fun w hG => hin0 _ 4 (bel.step hG)) ?_
    refine Dr.val Grow.refl rfl (fun w hG => Runs.addL (b := [32]) rfl rfl rfl (by simp only [List.length_cons, List.length_nil]; omega)) rfl ?_
    refine Dr.val Grow.refl rfl (fun w hG => Runs.move rfl rfl) rfl ?_
    refine Dr.val Grow.refl rfl (fun w hG => Runs.addL rfl rfl rfl (by simp only [List.length_append, List.length_cons, List.length_nil]; omega)) rfl ?_
    refine Dr.val Grow.refl rfl (fun w hG => Runs.addL (b := [32]) rfl rfl rfl (by simp only [List.length_append, List.length_cons, List.length_nil]; omega)) rfl ?_
    refine Dr.val Grow.refl rfl (fun w hG => Runs.fieldB 3 rfl rfl Try.underlying35 rfl (by kernel_rfl)) rfl ?_
    refine Dr.val Grow.refl rfl (fun w hG => Runs.loadB rfl rfl Try.underlying25 rfl (k1.step hG) rfl) rfl ?_
    refine Dr.val Grow.refl rfl (fun w hG => Runs.indexN rfl rfl rfl Try.underlying25 (s := 4) (by kernel_rfl) (j := 1) rfl (by omega)) rfl ?_
    refine Dr.val Grow.refl rfl (fun w hG => Runs.loadF (ps := [.int .i64 y.op, .int .i64 y.n, .string (strOf y.name), .slice A1 y.args.length c1']) rfl rfl Try.underlying35 rfl (m := 4) (by kernel_rfl) rfl (y4 _ (bel.step hG))) rfl ?_
    refine Dr.callV rfl (fun w => Enters.func rfl rfl rfl (run_enter Try.func48 (by kernel_rfl) rfl)) rfl (fun w hG => hin1 _ 4 (bel.step hG)) ?_
    refine Dr.val Grow.refl rfl (fun w hG => Runs.addL rfl rfl rfl (by simp only [List.length_append, List.length_cons, List.length_nil]; omega)) rfl ?_
    refine Dr.val Grow.refl rfl (fun w hG => Runs.assign rfl rfl) rfl ?_
    refine Dr.nil ?_
    refine FinX.done (F' := [(0, _), (1, _), (2, _), (3, _), (4, _), (13, _), (20, _), (27, _), (33, _), (37, _), (47, _)]) rfl ⟨rfl, rfl, rfl, rfl, rfl, rfl, rfl, rfl, rfl, rfl, rfl, trivial⟩ ?_
    intro w3 hw3 fw3
    replace bel := bel.step hw3
    replace k1 := k1.step hw3
    refine Seq.nil ?_
    refine Post.weak (F' := [(0, _), (1, _), (2, _), (3, _), (4, _), (13, _), (20, _), (27, _), (33, _), (37, _), (47, _)]) ⟨rfl, rfl, rfl, rfl, rfl, rfl, rfl, rfl, rfl, rfl, rfl, trivial⟩ ?_
    refine Post.then_ ?_
    refine Cd.ret ?_
    refine Post.block_ret ?_
    refine Post.then_ret ?_
    refine Post.end1 rfl rfl (.inl rfl) ?_
    rw [hT]
    exact ⟨rfl, bel⟩
  rw [if_neg c6] at hT
  refine Cd.seq ?_
  refine Cd.region ?_
  refine Seq.val (Runs.move rfl rfl) rfl rfl rfl ?_
  refine Seq.val (Runs.lss rfl rfl rfl) rfl rfl rfl ?_
  refine Seq.val (Runs.assign rfl rfl) rfl rfl rfl ?_
  refine Seq.nil ?_
  refine Post.weak (F' := [(0, _), (1, _), (2, _), (3, _), (4, _), (13, _), (20, _), (27, _), (33, _), (37, _), (47, _), (65, _)]) ⟨rfl, rfl, rfl, rfl, rfl, rfl, rfl, rfl, rfl, rfl, rfl, rfl, trivial⟩ ?_
  refine Post.then_ ?_
  refine Cd.condD rfl (fun c7 => ?_) (fun c7 => ?_)
  · rw [if_pos c7] at hT
    obtain ⟨y, r', rfl⟩ := hbin c7
    obtain ⟨ad', A1, c1', hAd, y1, y2, y3, y4, y5⟩ := hrec 1 y (by rw [hxr]; rfl)
    injection hAd with hAd
    subst hAd
    have hlen2 : 2 ≤ e.args.length := by rw [hxr]; simp
    have hg1 : (e.args.map pairT).getD 1 (7, []) = pairT y := by rw [hxr]; rfl
    rw [hg1] at hT
    have hin1 : ∀ W least, Below w.heap.size w W → Calls Try.prog 48 #[.agg #[.int .i64 y.op, .int .i64 y.n, .string (strOf y.name), .slice A1 y.args.length c1'], .int .i64 least] W fun en w' => en = .returned (.string (strOf (inT y least))) ∧ Grow W w' := fun W least hb => refIn_of y least A1 c1' W y3 (by omega) fun W2 hb2 => y5 W2 (hb.step hb2)
    have hil1 : ∀ least, (inT y least).length ≤ 20000 := fun least => by have := (parT_len least (pairT y)).1; have e1 : (pairT y).2 = exprT y := rfl; rw [e1] at this; unfold inT; omega
    have i0 := hil0 (bindT e.op).2
    have i1 := hil1 ((bindT e.op).2 + 1)
    refine Cd.seq ?_
    refine Cd.weak (F' := [(0, _), (1, _), (3, _), (4, _), (13, _), (20, _), (27, _), (33, _), (37, _), (47, _), (65, _)]) ⟨rfl, rfl, rfl, rfl, rfl, rfl, rfl, rfl, rfl, rfl, rfl, trivial⟩ ?_
    refine Cd.draw 19 (by kernel_rfl) [] (.inl rfl) rfl Grow Grow.refl (fun _ _ _ => Grow.trans) ?_
    intro w2 hw2 zw2
    replace bel := bel.step hw2
    replace k1 := k1.step hw2
    have zbel := bel.size
    have zlt := k1.lt
    refine Dr.val Grow.refl rfl (fun w hG => Runs.fieldB 3 rfl rfl Try.underlying35 rfl (by kernel_rfl)) rfl ?_
    refine Dr.val Grow.refl rfl (fun w hG => Runs.loadB rfl rfl Try.underlying25 rfl (k1.step hG) rfl) rfl ?_
    refine Dr.val Grow.refl rfl (fun w hG => Runs.indexN rfl rfl rfl Try.underlying25 (s := 4) (by kernel_rfl) (j := 0) rfl (by omega)) rfl ?_
    refine Dr.val Grow.refl rfl (fun w hG => Runs.loadF (ps := [.int .i64 x.op, .int .i64 x.n, .string (strOf x.name), .slice A0 x.args.length c0]) rfl rfl Try.underlying35 rfl (m := 4) (by kernel_rfl) rfl (x4 _ (bel.step hG))) rfl ?_
    refine Dr.val Grow.refl rfl (fun w hG => Runs.move rfl rfl) rfl ?_
    refine Dr.callV rfl (fun w => Enters.func rfl rfl rfl (run_enter Try.func48 (by kernel_rfl) rfl)) rfl (fun w hG => hin0 _ (bindT e.op).2 (bel.step hG)) ?_
    refine Dr.val Grow.refl rfl (fun w hG => Runs.addL (b := [32]) rfl rfl rfl (by simp only [List.length_cons, List.length_nil]; omega)) rfl ?_
    refine Dr.val Grow.refl rfl (fun w hG => Runs.move rfl rfl) rfl ?_
    refine Dr.val Grow.refl rfl (fun w hG => Runs.addL rfl rfl rfl (by simp only [List.length_append, List.length_cons, List.length_nil]; omega)) rfl ?_
    refine Dr.val Grow.refl rfl (fun w hG => Runs.addL (b := [32]) rfl rfl rfl (by simp only [List.length_append, List.length_cons, List.length_nil]; omega)) rfl ?_
    refine Dr.val Grow.refl rfl (fun w hG => Runs.fieldB 3 rfl rfl Try.underlying35 rfl (by kernel_rfl)) rfl ?_
    refine Dr.val Grow.refl rfl (fun w hG => Runs.loadB rfl rfl Try.underlying25 rfl (k1.step hG) rfl) rfl ?_
    refine Dr.val Grow.refl rfl (fun w hG => Runs.indexN rfl rfl rfl Try.underlying25 (s := 4) (by kernel_rfl) (j := 1) rfl (by omega)) rfl ?_
    refine Dr.val Grow.refl rfl (fun w hG => Runs.loadF (ps := [.int .i64 y.op, .int .i64 y.n, .string (strOf y.name), .slice A1 y.args.length c1']) rfl rfl Try.underlying35 rfl (m := 4) (by kernel_rfl) rfl (y4 _ (bel.step hG))) rfl ?_
    refine Dr.val Grow.refl rfl (fun w hG => Runs.move rfl rfl) rfl ?_
    refine Dr.val Grow.refl rfl (fun w hG => Runs.addI rfl rfl rfl (by omega) (by omega)) rfl ?_
    refine Dr.callV rfl (fun w => Enters.func rfl rfl rfl (run_enter Try.func48 (by kernel_rfl) rfl)) rfl (fun w hG => hin1 _ ((bindT e.op).2 + 1) (bel.step hG)) ?_
    refine Dr.val Grow.refl rfl (fun w hG => Runs.addL rfl rfl rfl (by simp only [List.length_append, List.length_cons, List.length_nil]; omega)) rfl ?_
    refine Dr.val Grow.refl rfl (fun w hG => Runs.assign rfl rfl) rfl ?_
    refine Dr.nil ?_
    refine FinX.done (F' := [(0, _), (1, _), (2, _), (3, _), (4, _), (13, _), (20, _), (27, _), (33, _), (37, _), (47, _), (65, _)]) rfl ⟨rfl, rfl, rfl, rfl, rfl, rfl, rfl, rfl, rfl, rfl, rfl, rfl, trivial⟩ ?_
    intro w3 hw3 fw3
    replace bel := bel.step hw3
    replace k1 := k1.step hw3
    refine Seq.nil ?_
    refine Post.weak (F' := [(0, _), (1, _), (2, _), (3, _), (4, _), (13, _), (20, _), (27, _), (33, _), (37, _), (47, _), (65, _)]) ⟨rfl, rfl, rfl, rfl, rfl, rfl, rfl, rfl, rfl, rfl, rfl, rfl, trivial⟩ ?_
    refine Post.then_ ?_
    refine Cd.ret ?_
    refine Post.block_ret ?_
    refine Post.then_ret ?_
    refine Post.end1 rfl rfl (.inl rfl) ?_
    rw [hT]
    exact ⟨rfl, bel⟩
  rw [if_neg c7, snd_pairT] at hT
  have hjl : (joinT (e.args.map exprT)).length ≤ 20000 := by
    have := joinT_len e.args fun z hz => (exprT_bd z.nodes z (Nat.le_refl _) (hargs z hz)).1
    have hn : e.nodes = 1 + nodesL e.args := by cases e; exact Ex.nodes_mk _ _ _ _
    have : e.args.length ≤ 3 := by omega
    omega
  have hl3 : e.args.length ≤ 3 := by omega
  refine Cd.skip ?_
  refine Post.block_normal ?_
  refine Post.then_ ?_
  refine Cd.seq ?_
  refine Cd.region ?_
  refine Seq.val (Runs.assign rfl rfl) rfl rfl rfl ?_
  refine Seq.nil ?_
  refine Post.weak (F' := [(0, _), (1, _), (2, _), (3, _), (4, _), (5, _), (13, _), (20, _), (27, _), (33, _), (37, _), (47, _), (65, _)]) ⟨rfl, rfl, rfl, rfl, rfl, rfl, rfl, rfl, rfl, rfl, rfl, rfl, rfl, trivial⟩ ?_
  refine Post.then_ ?_
  refine Cd.seq ?_
  refine Cd.seq ?_
  refine Cd.region ?_
  refine Seq.val (Runs.assign rfl rfl) rfl rfl rfl ?_
  refine Seq.nil ?_
  refine Post.weak (F' := [(0, _), (1, _), (2, _), (3, _), (4, _), (5, _), (6, _), (13, _), (20, _), (27, _), (33, _), (37, _), (47, _), (65, _)]) ⟨rfl, rfl, rfl, rfl, rfl, rfl, rfl, rfl, rfl, rfl, rfl, rfl, rfl, rfl, trivial⟩ ?_
  refine Post.then_ ?_
  refine Cd.block ?_
  refine Cd.loop (σ := Nat × Value) (fun s => [(1, .pointer (some ⟨g1, 0, none⟩)), (5, s.2), (6, .int .i64 (s.1 : Int))]) (fun s wr => s.1 ≤ e.args.length ∧ Below w.heap.size w wr ∧ Blk wr g1 35 #[.int .i64 e.op, .int .i64 e.n, .string (strOf e.name), .slice (some ad) e.args.length c] ∧ Own wr w.heap.size 9 1 s.2 s.1 ((e.args.take s.1).map fun x => .string (strOf (exprT x)))) (fun s => e.args.length - s.1) (0, .slice none 0 0) ⟨Nat.zero_le _, bel, k1, Own.nil _ _ _ _⟩ ⟨rfl, rfl, rfl, trivial⟩ ?_
  clear bel k1
  rintro ⟨k, v⟩ wr ⟨hk, bel, k1, own⟩
  dsimp only at hk own ⊢
  refine Cd.seq ?_
  refine Cd.seq ?_
  refine Cd.region ?_
  refine Seq.val (Runs.move rfl rfl) rfl rfl rfl ?_
  refine Seq.val (Runs.fieldB 3 rfl rfl Try.underlying35 rfl (by kernel_rfl)) rfl rfl rfl ?_
  refine Seq.val (Runs.loadB rfl rfl Try.underlying25 rfl k1 rfl) rfl rfl rfl ?_
  refine Seq.val (Runs.len rfl rfl Try.underlying25) rfl rfl rfl ?_
  refine Seq.val (Runs.lss rfl rfl rfl) rfl rfl rfl ?_
  refine Seq.nil ?_
  refine Post.weak (F' := [(1, _), (5, _), (6, _), (90, _)]) ⟨rfl, rfl, rfl, rfl, trivial⟩ ?_
  refine Post.then_ ?_
  refine Cd.condD rfl (fun hc => ?_) (fun hc => ?_)
  · obtain ⟨y, hy⟩ : ∃ y, e.args[k]? = some y := ⟨_, List.getElem?_eq_getElem (by omega)⟩
    obtain ⟨ad', A1, c1', hAd, y1, y2, y3, y4, y5⟩ := hrec k y hy
    injection hAd with hAd
    subst hAd
    have htk : e.args.take (k + 1) = e.args.take k ++ [y] := by rw [List.take_add_one, hy]; rfl
    refine Cd.skip ?_
    refine Post.then_ ?_
    refine Cd.seq ?_
    refine Cd.block ?_
    refine Cd.region ?_
    refine Seq.val (Runs.move rfl rfl) rfl rfl rfl ?_
    refine Seq.val (Runs.fieldB 3 rfl rfl Try.underlying35 rfl (by kernel_rfl)) rfl rfl rfl ?_
    refine Seq.val (Runs.loadB rfl rfl Try.underlying25 rfl k1 rfl) rfl rfl rfl ?_
    refine Seq.val (Runs.move rfl rfl) rfl rfl rfl ?_
    refine Seq.val (Runs.indexN rfl rfl rfl Try.underlying25 (s := 4) (by kernel_rfl) (j := k) rfl (by omega)) rfl rfl rfl ?_
    refine Seq.val (Runs.loadF (ps := [.int .i64 y.op, .int .i64 y.n, .string (strOf y.name), .slice A1 y.args.length c1']) rfl rfl Try.underlying35 rfl (m := 4) (by kernel_rfl) rfl (y4 _ bel)) rfl rfl rfl ?_
    refine Seq.call (Enters.func rfl rfl rfl (run_enter Try.func17 (by kernel_rfl) rfl)) rfl rfl rfl (y5 _ bel) ?_
    rintro en w6 ⟨rfl, hb6⟩
    refine ⟨_, rfl, ?_⟩
    replace bel := bel.step hb6
    replace k1 := k1.step hb6
    replace own := own.step hb6
    refine Seq.slice (vs := [_]) (s := 1) rfl rfl rfl Try.underlying85 (by kernel_rfl) (zero_string) (by omega) (by omega) ⟨rfl, trivial⟩ rfl rfl rfl ?_
    intro g100 w2 n100
    have e100 := Nat.le_trans bel.size n100.ge
    have l100 := Nat.lt_of_lt_of_le k1.lt n100.ge
    replace bel := bel.step n100.below
    replace k1 := k1.step n100.below
    replace own := own.step n100.below
    have k100 := n100.blk
    refine Seq.append rfl rfl rfl Try.underlying85 (by kernel_rfl) zero_string rfl (by decide) (b := 16) (by kernel_rfl) own (Reads.blk k100 1 rfl) (by intro x hx; simp [flatC, Value.cells] at hx; rw [hx]; rfl) bel.size (by simp only [maxLen]; omega) (by omega) rfl rfl rfl ?_
    intro vw3 w3 ow3 haw3
    try replace k1 := k1.app own haw3
    try replace k100 := k100.app own haw3
    clear own
    have own := ow3
    replace bel := bel.trans haw3.below
    refine Seq.val (Runs.assign rfl rfl) rfl rfl rfl ?_
    refine Seq.nil ?_
    refine Post.weak (F' := [(1, _), (5, _), (6, _), (90, _)]) ⟨rfl, rfl, rfl, rfl, trivial⟩ ?_
    refine Post.block_normal ?_
    refine Post.then_ ?_
    refine Cd.region ?_
    refine Seq.val (Runs.move rfl rfl) rfl rfl rfl ?_
    refine Seq.val (Runs.addI rfl rfl rfl (by omega) (by omega)) rfl rfl rfl ?_
    refine Seq.val (Runs.assign rfl rfl) rfl rfl rfl ?_
    refine Seq.nil ?_
    refine Post.weak (F' := [(1, _), (5, _), (6, _), (90, _)]) ⟨rfl, rfl, rfl, rfl, trivial⟩ ?_
    refine Post.round (k + 1, _) ⟨rfl, rfl, rfl, trivial⟩ ⟨by dsimp only; omega, bel, k1, ?_⟩ (by dsimp only; omega)
    dsimp only
    rw [htk, List.map_append]
    exact own
  · obtain rfl : k = e.args.length := by omega
    rw [List.take_of_length_le (Nat.le_refl _)] at own
    obtain ⟨A2, c2, rfl, rd⟩ := own.reads
    have hjoin : ∀ W, Below wr.heap.size wr W → Calls Try.prog 49 #[.slice A2 e.args.length c2] W fun en w' => en = .returned (.string (strOf (joinT (e.args.map exprT)))) ∧ Grow W w' := fun W hb => join_any e.args.length c2 A2 (e.args.map exprT) W (by rw [List.map_map]; exact (rd.below hb).more hb.size) (by omega) (by omega)
    have hloc := Below.refl wr.heap.size wr
    refine Cd.exit ?_
    refine Post.then_exit ?_
    refine Post.round_exit ?_
    refine Post.block_exit ?_
    refine Post.then_ ?_
    refine Cd.seq ?_
    refine Cd.seq ?_
    refine Cd.region ?_
    refine Seq.val (Runs.fieldB 0 rfl rfl Try.underlying35 rfl (by kernel_rfl)) rfl rfl rfl ?_
    refine Seq.val (Runs.loadB rfl rfl Try.underlying3 rfl k1 rfl) rfl rfl rfl ?_
    refine Seq.val (Runs.eqlI rfl rfl rfl) rfl rfl rfl ?_
    refine Seq.nil ?_
    refine Post.weak (F' := [(1, _), (5, _), (6, _), (90, _), (104, _)]) ⟨rfl, rfl, rfl, rfl, rfl, trivial⟩ ?_
    refine Post.then_ ?_
    refine Cd.condD rfl (fun c9 => ?_) (fun c9 => ?_)
    · rw [if_pos c9] at hT
      refine Cd.seq ?_
      refine Cd.region ?_
      refine Seq.val (Runs.move rfl rfl) rfl rfl rfl ?_
      refine Seq.call (Enters.func rfl rfl rfl (run_enter Try.func49 (by kernel_rfl) rfl)) rfl rfl rfl (hjoin _ hloc) ?_
      rintro en w6 ⟨rfl, hb6⟩
      refine ⟨_, rfl, ?_⟩
      replace bel := bel.step hb6
      replace k1 := k1.step hb6
      replace hloc := hloc.step hb6
      refine Seq.val (Runs.addL (a := [109, 105, 110, 40]) rfl rfl rfl (by simp only [List.length_cons, List.length_nil]; omega)) rfl rfl rfl ?_
      refine Seq.val (Runs.addL (b := [41]) rfl rfl rfl (by simp only [List.length_append, List.length_cons, List.length_nil]; omega)) rfl rfl rfl ?_
      refine Seq.val (Runs.assign rfl rfl) rfl rfl rfl ?_
      refine Seq.nil ?_
      refine Post.weak (F' := [(1, _), (2, _), (5, _), (6, _), (90, _), (104, _)]) ⟨rfl, rfl, rfl, rfl, rfl, rfl, trivial⟩ ?_
      refine Post.then_ ?_
      refine Cd.ret ?_
      refine Post.then_ret ?_
      refine Post.end1 rfl rfl (.inl rfl) ?_
      rw [hT]
      exact ⟨rfl, bel⟩
    rw [if_neg c9] at hT
    refine Cd.skip ?_
    refine Post.then_ ?_
    refine Cd.seq ?_
    refine Cd.seq ?_
    refine Cd.region ?_
    refine Seq.val (Runs.fieldB 0 rfl rfl Try.underlying35 rfl (by kernel_rfl)) rfl rfl rfl ?_
    refine Seq.val (Runs.loadB rfl rfl Try.underlying3 rfl k1 rfl) rfl rfl rfl ?_
    refine Seq.val (Runs.eqlI rfl rfl rfl) rfl rfl rfl ?_
    refine Seq.nil ?_
    refine Post.weak (F' := [(1, _), (5, _), (6, _), (90, _), (104, _), (111, _)]) ⟨rfl, rfl, rfl, rfl, rfl, rfl, trivial⟩ ?_
    refine Post.then_ ?_
    refine Cd.condD rfl (fun c10 => ?_) (fun c10 => ?_)
    · rw [if_pos c10] at hT
      refine Cd.seq ?_
      refine Cd.region ?_
      refine Seq.val (Runs.move rfl rfl) rfl rfl rfl ?_
      refine Seq.call (Enters.func rfl rfl rfl (run_enter Try.func49 (by kernel_rfl) rfl)) rfl rfl rfl (hjoin _ hloc) ?_
      rintro en w6 ⟨rfl, hb6⟩
      refine ⟨_, rfl, ?_⟩
      replace bel := bel.step hb6
      replace k1 := k1.step hb6
      replace hloc := hloc.step hb6
      refine Seq.val (Runs.addL (a := [109, 97, 120, 40]) rfl rfl rfl (by simp only [List.length_cons, List.length_nil]; omega)) rfl rfl rfl ?_
      refine Seq.val (Runs.addL (b := [41]) rfl rfl rfl (by simp only [List.length_append, List.length_cons, List.length_nil]; omega)) rfl rfl rfl ?_
      refine Seq.val (Runs.assign rfl rfl) rfl rfl rfl ?_
      refine Seq.nil ?_
      refine Post.weak (F' := [(1, _), (2, _), (5, _), (6, _), (90, _), (104, _), (111, _)]) ⟨rfl, rfl, rfl, rfl, rfl, rfl, rfl, trivial⟩ ?_
      refine Post.then_ ?_
      refine Cd.ret ?_
      refine Post.then_ret ?_
      refine Post.end1 rfl rfl (.inl rfl) ?_
      rw [hT]
      exact ⟨rfl, bel⟩
    · rw [if_neg c10] at hT
      refine Cd.skip ?_
      refine Post.then_ ?_
      refine Cd.seq ?_
      refine Cd.region ?_
      refine Seq.val (Runs.move rfl rfl) rfl rfl rfl ?_
      refine Seq.call (Enters.func rfl rfl rfl (run_enter Try.func49 (by kernel_rfl) rfl)) rfl rfl rfl (hjoin _ hloc) ?_
      rintro en w6 ⟨rfl, hb6⟩
      refine ⟨_, rfl, ?_⟩
      replace bel := bel.step hb6
      replace k1 := k1.step hb6
      replace hloc := hloc.step hb6
      refine Seq.val (Runs.addL (a := [105, 102, 40]) rfl rfl rfl (by simp only [List.length_cons, List.length_nil]; omega)) rfl rfl rfl ?_
      refine Seq.val (Runs.addL (b := [41]) rfl rfl rfl (by simp only [List.length_append, List.length_cons, List.length_nil]; omega)) rfl rfl rfl ?_
      refine Seq.val (Runs.assign rfl rfl) rfl rfl rfl ?_
      refine Seq.nil ?_
      refine Post.weak (F' := [(1, _), (2, _), (5, _), (6, _), (90, _), (104, _), (111, _)]) ⟨rfl, rfl, rfl, rfl, rfl, rfl, rfl, trivial⟩ ?_
      refine Post.then_ ?_
      refine Cd.ret ?_
      refine Post.end1 rfl rfl (.inl rfl) ?_
      rw [hT]
      exact ⟨rfl, bel⟩
end Go.Proofs.Ytijaldpmpjapiaa

namespace Go.Proofs.Ytijaldpmpjapiaa
open Go.RowKit

section
variable {P : Program} {Q : Exit → Act → World → Prop} {n : Nat} {F F' : List (Nat × Value)} {w : World}
def JoinD (n : Nat) (F : List (Nat × Value)) (J : Inhabited (List Deferred) → World → Prop) (a : Act) (w : World) : Prop := ∃ I, @Fr I n F a ∧ J I w
theorem Cd.seqD {x y : Code} (F' : List (Nat × Value)) (J : Inhabited (List Deferred) → World → Prop) (hx : Cd P x (Exit.then (JoinD n F' J) Q) n F w) (hy : ∀ I w, J I w → @Cd I P y Q n F' w) : Cd P (.seq x y) Q n F w :=
  fun a ha => wp_seq (Code.wp_mono (fun e a w q => by
    cases e with
    | normal => obtain ⟨I, hF, hJ⟩ := q; exact hy I w hJ a hF
    | exit id => exact q
    | goto l => exact q
    | ret => exact q
    | panic ch => exact q
    | outgrown => exact q) (hx a ha))
theorem Post.joinD {I : Inhabited (List Deferred)} {J : Inhabited (List Deferred) → World → Prop} (hs : Sub F' F) (hJ : J I w) : @Post I (Exit.then (JoinD n F' J) Q) .normal n F w := fun _ ha => ⟨I, ha.sub hs, hJ⟩
end
end Go.Proofs.Ytijaldpmpjapiaa

namespace Go.Proofs.Ytijaldpmpjapiaa
open Go.RowKit

theorem opSign_any (op : Int) (w : World) : Calls Try.prog 77 #[.int .i64 op] w fun e w' => e = .returned (.tuple #[.string (strOf (bindT op).1), .int .i64 (bindT op).2]) ∧ Grow w w' := by
  have bel := Below.refl w.heap.size w
  refine Calls.start 33 Try.func77 rfl rfl rfl ?_
  refine Cd.seq ?_
  refine Cd.region ?_
  refine Seq.val (Runs.assign rfl rfl) rfl rfl rfl ?_
  refine Seq.val (Runs.assign rfl rfl) rfl rfl rfl ?_
  refine Seq.nil ?_
  refine Post.weak (F' := [(0, _), (2, _), (3, _)]) ⟨rfl, rfl, rfl, trivial⟩ ?_
  refine Post.then_ ?_
  refine Cd.seq ?_
  refine Cd.seq ?_
  refine Cd.region ?_
  refine Seq.val (Runs.move rfl rfl) rfl rfl rfl ?_
  refine Seq.nil ?_
  refine Post.weak (F' := [(0, _), (2, _), (3, _), (4, _)]) ⟨rfl, rfl, rfl, rfl, trivial⟩ ?_
  refine Post.then_ ?_
  refine Cd.block ?_
  refine Cd.seq ?_
  refine Cd.region ?_
  refine Seq.val (Runs.eqlI rfl rfl rfl) rfl rfl rfl ?_
  refine Seq.val (Runs.assign rfl rfl) rfl rfl rfl ?_
  refine Seq.nil ?_
  refine Post.weak (F' := [(0, _), (2, _), (3, _), (4, _), (5, _)]) ⟨rfl, rfl, rfl, rfl, rfl, trivial⟩ ?_
  refine Post.then_ ?_
  refine Cd.condD rfl (fun h18 => ?_) (fun h18 => ?_)
  · skip
    refine Cd.seq ?_
    refine Cd.region ?_
    refine Seq.val (Runs.assign rfl rfl) rfl rfl rfl ?_
    refine Seq.val (Runs.assign rfl rfl) rfl rfl rfl ?_
    refine Seq.nil ?_
    refine Post.weak (F' := [(0, _), (2, _), (3, _), (4, _), (5, _)]) ⟨rfl, rfl, rfl, rfl, rfl, trivial⟩ ?_
    refine Post.then_ ?_
    refine Cd.ret ?_
    refine Post.block_ret ?_
    refine Post.then_ret ?_
    refine Post.end2 rfl rfl rfl (.inl rfl) ?_
    subst h18
    exact ⟨rfl, bel⟩
  refine Cd.seq ?_
  refine Cd.region ?_
  refine Seq.val (Runs.eqlI rfl rfl rfl) rfl rfl rfl ?_
  refine Seq.val (Runs.assign rfl rfl) rfl rfl rfl ?_
  refine Seq.nil ?_
  refine Post.weak (F' := [(0, _), (2, _), (3, _), (4, _), (5, _), (7, _)]) ⟨rfl, rfl, rfl, rfl, rfl, rfl, trivial⟩ ?_
  refine Post.then_ ?_
  refine Cd.condD rfl (fun h17 => ?_) (fun h17 => ?_)
  · skip
    refine Cd.seq ?_
    refine Cd.region ?_
    refine Seq.val (Runs.assign rfl rfl) rfl rfl rfl ?_
    refine Seq.val (Runs.assign rfl rfl) rfl rfl rfl ?_
    refine Seq.nil ?_
    refine Post.weak (F' := [(0, _), (2, _), (3, _), (4, _), (5, _), (7, _)]) ⟨rfl, rfl, rfl, rfl, rfl, rfl, trivial⟩ ?_
    refine Post.then_ ?_
    refine Cd.ret ?_
    refine Post.block_ret ?_
    refine Post.then_ret ?_
    refine Post.end2 rfl rfl rfl (.inl rfl) ?_
    subst h17
    exact ⟨rfl, bel⟩
  refine Cd.seq ?_
  refine Cd.region ?_
  refine Seq.val (Runs.eqlI rfl rfl rfl) rfl rfl rfl ?_
  refine Seq.val (Runs.assign rfl rfl) rfl rfl rfl ?_
  refine Seq.nil ?_
  refine Post.weak (F' := [(0, _), (2, _), (3, _), (4, _), (5, _), (7, _), (9, _)]) ⟨rfl, rfl, rfl, rfl, rfl, rfl, rfl, trivial⟩ ?_
  refine Post.then_ ?_
  refine Cd.condD rfl (fun h11 => ?_) (fun h11 => ?_)
  · skip
    refine Cd.seq ?_
    refine Cd.region ?_
    refine Seq.val (Runs.assign rfl rfl) rfl rfl rfl ?_
    refine Seq.val (Runs.assign rfl rfl) rfl rfl rfl ?_
    refine Seq.nil ?_
    refine Post.weak (F' := [(0, _), (2, _), (3, _), (4, _), (5, _), (7, _), (9, _)]) ⟨rfl, rfl, rfl, rfl, rfl, rfl, rfl, trivial⟩ ?_
    refine Post.then_ ?_
    refine Cd.ret ?_
    refine Post.block_ret ?_
    refine Post.then_ret ?_
    refine Post.end2 rfl rfl rfl (.inl rfl) ?_
    subst h11
    exact ⟨rfl, bel⟩
  refine Cd.seq ?_
  refine Cd.region ?_
  refine Seq.val (Runs.eqlI rfl rfl rfl) rfl rfl rfl ?_
  refine Seq.val (Runs.assign rfl rfl) rfl rfl rfl ?_
  refine Seq.nil ?_
  refine Post.weak (F' := [(0, _), (2, _), (3, _), (4, _), (5, _), (7, _), (9, _), (11, _)]) ⟨rfl, rfl, rfl, rfl, rfl, rfl, rfl, rfl, trivial⟩ ?_
  refine Post.then_ ?_
  refine Cd.condD rfl (fun h12 => ?_) (fun h12 => ?_)
  · skip
    refine Cd.seq ?_
    refine Cd.region ?_
    refine Seq.val (Runs.assign rfl rfl) rfl rfl rfl ?_
    refine Seq.val (Runs.assign rfl rfl) rfl rfl rfl ?_
    refine Seq.nil ?_
    refine Post.weak (F' := [(0, _), (2, _), (3, _), (4, _), (5, _), (7, _), (9, _), (11, _)]) ⟨rfl, rfl, rfl, rfl, rfl, rfl, rfl, rfl, trivial⟩ ?_
    refine Post.then_ ?_
    refine Cd.ret ?_
    refine Post.block_ret ?_
    refine Post.then_ret ?_
    refine Post.end2 rfl rfl rfl (.inl rfl) ?_
    subst h12
    exact ⟨rfl, bel⟩
  refine Cd.seq ?_
  refine Cd.region ?_
  refine Seq.val (Runs.eqlI rfl rfl rfl) rfl rfl rfl ?_
  refine Seq.val (Runs.assign rfl rfl) rfl rfl rfl ?_
  refine Seq.nil ?_
  refine Post.weak (F' := [(0, _), (2, _), (3, _), (4, _), (5, _), (7, _), (9, _), (11, _), (13, _)]) ⟨rfl, rfl, rfl, rfl, rfl, rfl, rfl, rfl, rfl, trivial⟩ ?_
  refine Post.then_ ?_
  refine Cd.condD rfl (fun h13 => ?_) (fun h13 => ?_)
  · skip
    refine Cd.seq ?_
    refine Cd.region ?_
    refine Seq.val (Runs.assign rfl rfl) rfl rfl rfl ?_
    refine Seq.val (Runs.assign rfl rfl) rfl rfl rfl ?_
    refine Seq.nil ?_
    refine Post.weak (F' := [(0, _), (2, _), (3, _), (4, _), (5, _), (7, _), (9, _), (11, _), (13, _)]) ⟨rfl, rfl, rfl, rfl, rfl, rfl, rfl, rfl, rfl, trivial⟩ ?_
    refine Post.then_ ?_
    refine Cd.ret ?_
    refine Post.block_ret ?_
    refine Post.then_ret ?_
    refine Post.end2 rfl rfl rfl (.inl rfl) ?_
    subst h13
    exact ⟨rfl, bel⟩
  refine Cd.seq ?_
  refine Cd.region ?_
  refine Seq.val (Runs.eqlI rfl rfl rfl) rfl rfl rfl ?_
  refine Seq.val (Runs.assign rfl rfl) rfl rfl rfl ?_
  refine Seq.nil ?_
  refine Post.weak (F' := [(0, _), (2, _), (3, _), (4, _), (5, _), (7, _), (9, _), (11, _), (13, _), (15, _)]) ⟨rfl, rfl, rfl, rfl, rfl, rfl, rfl, rfl, rfl, rfl, trivial⟩ ?_
  refine Post.then_ ?_
  refine Cd.condD rfl (fun h14 => ?_) (fun h14 => ?_)
  · skip
    refine Cd.seq ?_
    refine Cd.region ?_
    refine Seq.val (Runs.assign rfl rfl) rfl rfl rfl ?_
    refine Seq.val (Runs.assign rfl rfl) rfl rfl rfl ?_
    refine Seq.nil ?_
    refine Post.weak (F' := [(0, _), (2, _), (3, _), (4, _), (5, _), (7, _), (9, _), (11, _), (13, _), (15, _)]) ⟨rfl, rfl, rfl, rfl, rfl, rfl, rfl, rfl, rfl, rfl, trivial⟩ ?_
    refine Post.then_ ?_
    refine Cd.ret ?_
    refine Post.block_ret ?_
    refine Post.then_ret ?_
    refine Post.end2 rfl rfl rfl (.inl rfl) ?_
    subst h14
    exact ⟨rfl, bel⟩
  refine Cd.seq ?_
  refine Cd.region ?_
  refine Seq.val (Runs.eqlI rfl rfl rfl) rfl rfl rfl ?_
  refine Seq.val (Runs.assign rfl rfl) rfl rfl rfl ?_
  refine Seq.nil ?_
  refine Post.weak (F' := [(0, _), (2, _), (3, _), (4, _), (5, _), (7, _), (9, _), (11, _), (13, _), (15, _), (17, _)]) ⟨rfl, rfl, rfl, rfl, rfl, rfl, rfl, rfl, rfl, rfl, rfl, trivial⟩ ?_
  refine Post.then_ ?_
  refine Cd.condD rfl (fun h15 => ?_) (fun h15 => ?_)
  · skip
    refine Cd.seq ?_
    refine Cd.region ?_
    refine Seq.val (Runs.assign rfl rfl) rfl rfl rfl ?_
    refine Seq.val (Runs.assign rfl rfl) rfl rfl rfl ?_
    refine Seq.nil ?_
    refine Post.weak (F' := [(0, _), (2, _), (3, _), (4, _), (5, _), (7, _), (9, _), (11, _), (13, _), (15, _), (17, _)]) ⟨rfl, rfl, rfl, rfl, rfl, rfl, rfl, rfl, rfl, rfl, rfl, trivial⟩ ?_
    refine Post.then_ ?_
    refine Cd.ret ?_
    refine Post.block_ret ?_
    refine Post.then_ret ?_
    refine Post.end2 rfl rfl rfl (.inl rfl) ?_
    subst h15
    exact ⟨rfl, bel⟩
  refine Cd.seq ?_
  refine Cd.region ?_
  refine Seq.val (Runs.eqlI rfl rfl rfl) rfl rfl rfl ?_
  refine Seq.val (Runs.assign rfl rfl) rfl rfl rfl ?_
  refine Seq.nil ?_
  refine Post.weak (F' := [(0, _), (2, _), (3, _), (4, _), (5, _), (7, _), (9, _), (11, _), (13, _), (15, _), (17, _), (19, _)]) ⟨rfl, rfl, rfl, rfl, rfl, rfl, rfl, rfl, rfl, rfl, rfl, rfl, trivial⟩ ?_
  refine Post.then_ ?_
  refine Cd.condD rfl (fun h16 => ?_) (fun h16 => ?_)
  · skip
    refine Cd.seq ?_
    refine Cd.region ?_
    refine Seq.val (Runs.assign rfl rfl) rfl rfl rfl ?_
    refine Seq.val (Runs.assign rfl rfl) rfl rfl rfl ?_
    refine Seq.nil ?_
    refine Post.weak (F' := [(0, _), (2, _), (3, _), (4, _), (5, _), (7, _), (9, _), (11, _), (13, _), (15, _), (17, _), (19, _)]) ⟨rfl, rfl, rfl, rfl, rfl, rfl, rfl, rfl, rfl, rfl, rfl, rfl, trivial⟩ ?_
    refine Post.then_ ?_
    refine Cd.ret ?_
    refine Post.block_ret ?_
    refine Post.then_ret ?_
    refine Post.end2 rfl rfl rfl (.inl rfl) ?_
    subst h16
    exact ⟨rfl, bel⟩
  refine Cd.seq ?_
  refine Cd.region ?_
  refine Seq.val (Runs.eqlI rfl rfl rfl) rfl rfl rfl ?_
  refine Seq.val (Runs.assign rfl rfl) rfl rfl rfl ?_
  refine Seq.nil ?_
  refine Post.weak (F' := [(0, _), (2, _), (3, _), (4, _), (5, _), (7, _), (9, _), (11, _), (13, _), (15, _), (17, _), (19, _), (21, _)]) ⟨rfl, rfl, rfl, rfl, rfl, rfl, rfl, rfl, rfl, rfl, rfl, rfl, rfl, trivial⟩ ?_
  refine Post.then_ ?_
  refine Cd.condD rfl (fun h5 => ?_) (fun h5 => ?_)
  · skip
    refine Cd.seq ?_
    refine Cd.region ?_
    refine Seq.val (Runs.assign rfl rfl) rfl rfl rfl ?_
    refine Seq.val (Runs.assign rfl rfl) rfl rfl rfl ?_
    refine Seq.nil ?_
    refine Post.weak (F' := [(0, _), (2, _), (3, _), (4, _), (5, _), (7, _), (9, _), (11, _), (13, _), (15, _), (17, _), (19, _), (21, _)]) ⟨rfl, rfl, rfl, rfl, rfl, rfl, rfl, rfl, rfl, rfl, rfl, rfl, rfl, trivial⟩ ?_
    refine Post.then_ ?_
    refine Cd.ret ?_
    refine Post.block_ret ?_
    refine Post.then_ret ?_
    refine Post.end2 rfl rfl rfl (.inl rfl) ?_
    subst h5
    exact ⟨rfl, bel⟩
  refine Cd.seq ?_
  refine Cd.region ?_
  refine Seq.val (Runs.eqlI rfl rfl rfl) rfl rfl rfl ?_
  refine Seq.val (Runs.assign rfl rfl) rfl rfl rfl ?_
  refine Seq.nil ?_
  refine Post.weak (F' := [(0, _), (2, _), (3, _), (4, _), (5, _), (7, _), (9, _), (11, _), (13, _), (15, _), (17, _), (19, _), (21, _), (23, _)]) ⟨rfl, rfl, rfl, rfl, rfl, rfl, rfl, rfl, rfl, rfl, rfl, rfl, rfl, rfl, trivial⟩ ?_
  refine Post.then_ ?_
  refine Cd.condD rfl (fun h6 => ?_) (fun h6 => ?_)
  · skip
    refine Cd.seq ?_
    refine Cd.region ?_
    refine Seq.val (Runs.assign rfl rfl) rfl rfl rfl ?_
    refine Seq.val (Runs.assign rfl rfl) rfl rfl rfl ?_
    refine Seq.nil ?_
    refine Post.weak (F' := [(0, _), (2, _), (3, _), (4, _), (5, _), (7, _), (9, _), (11, _), (13, _), (15, _), (17, _), (19, _), (21, _), (23, _)]) ⟨rfl, rfl, rfl, rfl, rfl, rfl, rfl, rfl, rfl, rfl, rfl, rfl, rfl, rfl, trivial⟩ ?_
    refine Post.then_ ?_
    refine Cd.ret ?_
    refine Post.block_ret ?_
    refine Post.then_ret ?_
    refine Post.end2 rfl rfl rfl (.inl rfl) ?_
    subst h6
    exact ⟨rfl, bel⟩
  refine Cd.seq ?_
  refine Cd.region ?_
  refine Seq.val (Runs.eqlI rfl rfl rfl) rfl rfl rfl ?_
  refine Seq.val (Runs.assign rfl rfl) rfl rfl rfl ?_
  refine Seq.nil ?_
  refine Post.weak (F' := [(0, _), (2, _), (3, _), (4, _), (5, _), (7, _), (9, _), (11, _), (13, _), (15, _), (17, _), (19, _), (21, _), (23, _), (25, _)]) ⟨rfl, rfl, rfl, rfl, rfl, rfl, rfl, rfl, rfl, rfl, rfl, rfl, rfl, rfl, rfl, trivial⟩ ?_
  refine Post.then_ ?_
  refine Cd.condD rfl (fun h7 => ?_) (fun h7 => ?_)
  · skip
    refine Cd.seq ?_
    refine Cd.region ?_
    refine Seq.val (Runs.assign rfl rfl) rfl rfl rfl ?_
    refine Seq.val (Runs.assign rfl rfl) rfl rfl rfl ?_
    refine Seq.nil ?_
    refine Post.weak (F' := [(0, _), (2, _), (3, _), (4, _), (5, _), (7, _), (9, _), (11, _), (13, _), (15, _), (17, _), (19, _), (21, _), (23, _), (25, _)]) ⟨rfl, rfl, rfl, rfl, rfl, rfl, rfl, rfl, rfl, rfl, rfl, rfl, rfl, rfl, rfl, trivial⟩ ?_
    refine Post.then_ ?_
    refine Cd.ret ?_
    refine Post.block_ret ?_
    refine Post.then_ret ?_
    refine Post.end2 rfl rfl rfl (.inl rfl) ?_
    subst h7
    exact ⟨rfl, bel⟩
  refine Cd.seq ?_
  refine Cd.region ?_
  refine Seq.val (Runs.eqlI rfl rfl rfl) rfl rfl rfl ?_
  refine Seq.val (Runs.assign rfl rfl) rfl rfl rfl ?_
  refine Seq.nil ?_
  refine Post.weak (F' := [(0, _), (2, _), (3, _), (4, _), (5, _), (7, _), (9, _), (11, _), (13, _), (15, _), (17, _), (19, _), (21, _), (23, _), (25, _), (27, _)]) ⟨rfl, rfl, rfl, rfl, rfl, rfl, rfl, rfl, rfl, rfl, rfl, rfl, rfl, rfl, rfl, rfl, trivial⟩ ?_
  refine Post.then_ ?_
  refine Cd.condD rfl (fun h8 => ?_) (fun h8 => ?_)
  · skip
    refine Cd.seq ?_
    refine Cd.region ?_
    refine Seq.val (Runs.assign rfl rfl) rfl rfl rfl ?_
    refine Seq.val (Runs.assign rfl rfl) rfl rfl rfl ?_
    refine Seq.nil ?_
    refine Post.weak (F' := [(0, _), (2, _), (3, _), (4, _), (5, _), (7, _), (9, _), (11, _), (13, _), (15, _), (17, _), (19, _), (21, _), (23, _), (25, _), (27, _)]) ⟨rfl, rfl, rfl, rfl, rfl, rfl, rfl, rfl, rfl, rfl, rfl, rfl, rfl, rfl, rfl, rfl, trivial⟩ ?_
    refine Post.then_ ?_
    refine Cd.ret ?_
    refine Post.block_ret ?_
    refine Post.then_ret ?_
    refine Post.end2 rfl rfl rfl (.inl rfl) ?_
    subst h8
    exact ⟨rfl, bel⟩
  refine Cd.seq ?_
  refine Cd.region ?_
  refine Seq.val (Runs.eqlI rfl rfl rfl) rfl rfl rfl ?_
  refine Seq.val (Runs.assign rfl rfl) rfl rfl rfl ?_
  refine Seq.nil ?_
  refine Post.weak (F' := [(0, _), (2, _), (3, _), (4, _), (5, _), (7, _), (9, _), (11, _), (13, _), (15, _), (17, _), (19, _), (21, _), (23, _), (25, _), (27, _), (29, _)]) ⟨rfl, rfl, rfl, rfl, rfl, rfl, rfl, rfl, rfl, rfl, rfl, rfl, rfl, rfl, rfl, rfl, rfl, trivial⟩ ?_
  refine Post.then_ ?_
  refine Cd.condD rfl (fun h19 => ?_) (fun h19 => ?_)
  · skip
    refine Cd.seq ?_
    refine Cd.region ?_
    refine Seq.val (Runs.assign rfl rfl) rfl rfl rfl ?_
    refine Seq.val (Runs.assign rfl rfl) rfl rfl rfl ?_
    refine Seq.nil ?_
    refine Post.weak (F' := [(0, _), (2, _), (3, _), (4, _), (5, _), (7, _), (9, _), (11, _), (13, _), (15, _), (17, _), (19, _), (21, _), (23, _), (25, _), (27, _), (29, _)]) ⟨rfl, rfl, rfl, rfl, rfl, rfl, rfl, rfl, rfl, rfl, rfl, rfl, rfl, rfl, rfl, rfl, rfl, trivial⟩ ?_
    refine Post.then_ ?_
    refine Cd.ret ?_
    refine Post.block_ret ?_
    refine Post.then_ret ?_
    refine Post.end2 rfl rfl rfl (.inl rfl) ?_
    subst h19
    exact ⟨rfl, bel⟩
  refine Cd.seq ?_
  refine Cd.region ?_
  refine Seq.val (Runs.eqlI rfl rfl rfl) rfl rfl rfl ?_
  refine Seq.val (Runs.assign rfl rfl) rfl rfl rfl ?_
  refine Seq.nil ?_
  refine Post.weak (F' := [(0, _), (2, _), (3, _), (4, _), (5, _), (7, _), (9, _), (11, _), (13, _), (15, _), (17, _), (19, _), (21, _), (23, _), (25, _), (27, _), (29, _), (31, _)]) ⟨rfl, rfl, rfl, rfl, rfl, rfl, rfl, rfl, rfl, rfl, rfl, rfl, rfl, rfl, rfl, rfl, rfl, rfl, trivial⟩ ?_
  refine Post.then_ ?_
  refine Cd.condD rfl (fun h20 => ?_) (fun h20 => ?_)
  · skip
    refine Cd.seq ?_
    refine Cd.region ?_
    refine Seq.val (Runs.assign rfl rfl) rfl rfl rfl ?_
    refine Seq.val (Runs.assign rfl rfl) rfl rfl rfl ?_
    refine Seq.nil ?_
    refine Post.weak (F' := [(0, _), (2, _), (3, _), (4, _), (5, _), (7, _), (9, _), (11, _), (13, _), (15, _), (17, _), (19, _), (21, _), (23, _), (25, _), (27, _), (29, _), (31, _)]) ⟨rfl, rfl, rfl, rfl, rfl, rfl, rfl, rfl, rfl, rfl, rfl, rfl, rfl, rfl, rfl, rfl, rfl, rfl, trivial⟩ ?_
    refine Post.then_ ?_
    refine Cd.ret ?_
    refine Post.block_ret ?_
    refine Post.then_ret ?_
    refine Post.end2 rfl rfl rfl (.inl rfl) ?_
    subst h20
    exact ⟨rfl, bel⟩
  refine Cd.skip ?_
  refine Post.block_normal ?_
  refine Post.then_ ?_
  refine Cd.seq ?_
  refine Cd.region ?_
  refine Seq.val (Runs.assign rfl rfl) rfl rfl rfl ?_
  refine Seq.val (Runs.assign rfl rfl) rfl rfl rfl ?_
  refine Seq.nil ?_
  refine Post.weak (F' := [(0, _), (2, _), (3, _), (4, _), (5, _), (7, _), (9, _), (11, _), (13, _), (15, _), (17, _), (19, _), (21, _), (23, _), (25, _), (27, _), (29, _), (31, _)]) ⟨rfl, rfl, rfl, rfl, rfl, rfl, rfl, rfl, rfl, rfl, rfl, rfl, rfl, rfl, rfl, rfl, rfl, rfl, trivial⟩ ?_
  refine Post.then_ ?_
  refine Cd.ret ?_
  refine Post.end2 rfl rfl rfl (.inl rfl) ?_
  have hb : bindT op = ([], 7) := by
    unfold bindT
    by_cases h : op < 5 ∨ 20 < op
    · rw [if_pos h]
    · have : op = 9 ∨ op = 10 := by omega
      rcases this with rfl | rfl <;> rfl
  rw [hb]
  exact ⟨rfl, bel⟩
theorem WrRet.trans {B g : Nat} {bs : List Nat} {w w1 w2 : World} {e : Ending} (h : Wt B w w1) (k : WrRet B g bs w1 e w2) : WrRet B g bs w e w2 := ⟨k.1, h.wt k.2.1, k.2.2⟩
theorem list_any (B g f n : Nat) (cp : List Value) (word bs : List Nat) (ts : List (List Nat)) (w : World) (h : Bw w B g bs) (hw : ∀ d ∈ word, d < 256) (hwl : word.length ≤ 100) (hn : ts.length = n) (hn9 : n ≤ 1000) (hts : ∀ t ∈ ts, ∀ d ∈ t, d < 256) (hj : (joinT ts).length ≤ 20000) (hl : bs.length ≤ 900000000)
    (eg : ∀ args w, (callFunc f args).run Try.prog w = .ok (.enter f args) w)
    (one : ∀ (i : Nat) (t : List Nat), ts[i]? = some t → ∀ W bs', Wt B w W → Bw W B g bs' → bs'.length ≤ bs.length + 50000 → Calls Try.prog f ([] ++ [Value.int .i64 (i : Int)] ++ cp).toArray W (WrRet B g (bs' ++ t) W)) :
    Calls Try.prog 80 #[.pointer (some ⟨g, 0, none⟩), .string (strOf word), .int .i64 (n : Int), .func (.func f) #[] cp.toArray] w (WrRet B g (bs ++ word ++ [40] ++ joinT ts ++ [41]) w) := by
  have wt := Wt.refl B w
  have wr := h
  refine Calls.start 33 Try.func80 rfl rfl rfl ?_
  refine Cd.seq ?_
  refine Cd.region ?_
  refine Seq.val (Runs.move rfl rfl) rfl rfl rfl ?_
  refine Seq.val (Runs.nilCheck rfl rfl) rfl rfl rfl ?_
  refine Seq.val (Runs.fieldB 0 rfl rfl Try.underlying112 rfl (by kernel_rfl)) rfl rfl rfl ?_
  refine Seq.val (Runs.move rfl rfl) rfl rfl rfl ?_
  refine Seq.val (Runs.addL (b := [40]) rfl rfl rfl (by simp only [List.length_cons, List.length_nil]; omega)) rfl rfl rfl ?_
  have k40 : ∀ d ∈ word ++ [40], d < 256 := fun d hd => by
    rcases List.mem_append.1 hd with hd | hd
    · exact hw d hd
    · simp at hd; omega
  refine Seq.call (Enters.func rfl rfl rfl (run_enter Try.func78 (by kernel_rfl) rfl)) rfl rfl rfl ((writeS_both B g (word ++ [40]) bs _ wr k40 (by simp only [List.length_append, List.length_cons, List.length_nil]; omega)).1) ?_
  clear wr
  rintro e w1 ⟨⟨_, rfl⟩, fw1, wr⟩
  refine ⟨_, rfl, ?_⟩
  replace wt := wt.wt fw1
  rw [← List.append_assoc] at wr
  obtain ⟨pre, hpre⟩ : ∃ pre, pre = bs ++ word ++ [40] := ⟨_, rfl⟩
  have hprel : pre.length ≤ bs.length + 101 := by rw [hpre]; simp only [List.length_append, List.length_cons, List.length_nil]; omega
  rw [← hpre] at wr ⊢
  refine Seq.nil ?_
  refine Post.weak (F' := [(0, _), (1, _), (2, _), (3, _)]) ⟨rfl, rfl, rfl, rfl, trivial⟩ ?_
  refine Post.then_ ?_
  refine Cd.seq ?_
  refine Cd.seq ?_
  refine Cd.region ?_
  refine Seq.val (Runs.move rfl rfl) rfl rfl rfl ?_
  refine Seq.val (Runs.move rfl rfl) rfl rfl rfl ?_
  refine Seq.nil ?_
  refine Post.weak (F' := [(0, _), (1, _), (2, _), (3, _), (15, _), (16, _)]) ⟨rfl, rfl, rfl, rfl, rfl, rfl, trivial⟩ ?_
  refine Post.then_ ?_
  refine Cd.block ?_
  refine Cd.loop (σ := Nat) (fun k => [(0, .pointer (some ⟨g, 0, none⟩)), (1, .string (strOf word)), (2, .int .i64 (n : Int)), (3, .func (.func f) #[] cp.toArray), (15, .int .i64 (n : Int)), (16, .int .i64 (k : Int))]) (fun k wr' => k ≤ n ∧ Wt B w wr' ∧ Bw wr' B g (pre ++ joinT (ts.take k))) (fun k => n - k) 0 ⟨Nat.zero_le _, wt, by simpa [joinT] using wr⟩ ⟨rfl, rfl, rfl, rfl, rfl, rfl, trivial⟩ ?_
  clear wt wr
  rintro k w9 ⟨hk, wt, wr⟩
  have hbk := joinT_take ts k
  refine Cd.seq ?_
  refine Cd.region ?_
  refine Seq.val (Runs.lss rfl rfl rfl) rfl rfl rfl ?_
  refine Seq.nil ?_
  refine Post.weak (F' := [(0, _), (1, _), (2, _), (3, _), (15, _), (16, _), (17, _)]) ⟨rfl, rfl, rfl, rfl, rfl, rfl, rfl, trivial⟩ ?_
  refine Post.then_ ?_
  refine Cd.seq ?_
  refine Cd.condD rfl (fun hc => ?_) (fun hc => ?_)
  · obtain ⟨t, ht⟩ : ∃ t, ts[k]? = some t := ⟨_, List.getElem?_eq_getElem (by omega)⟩
    have htk : ts.take (k + 1) = ts.take k ++ [t] := by rw [List.take_add_one, ht]; rfl
    have hbk1 := joinT_take ts (k + 1)
    rw [htk, joinT_snoc] at hbk1
    refine Cd.skip ?_
    refine Post.then_ ?_
    refine Cd.seq ?_
    refine Cd.block ?_
    refine Cd.seq ?_
    refine Cd.region ?_
    refine Seq.val (Runs.move rfl rfl) rfl rfl rfl ?_
    refine Seq.val (Runs.assign rfl rfl) rfl rfl rfl ?_
    refine Seq.nil ?_
    refine Post.weak (F' := [(0, _), (1, _), (2, _), (3, _), (8, _), (15, _), (16, _), (17, _)]) ⟨rfl, rfl, rfl, rfl, rfl, rfl, rfl, rfl, trivial⟩ ?_
    refine Post.then_ ?_
    refine Cd.seq ?_
    refine Cd.seq ?_
    refine Cd.region ?_
    refine Seq.val (Runs.move rfl rfl) rfl rfl rfl ?_
    refine Seq.val (Runs.gtr rfl rfl rfl) rfl rfl rfl ?_
    refine Seq.nil ?_
    refine Post.weak (F' := [(0, _), (1, _), (2, _), (3, _), (8, _), (15, _), (16, _), (17, _), (20, _)]) ⟨rfl, rfl, rfl, rfl, rfl, rfl, rfl, rfl, rfl, trivial⟩ ?_
    refine Post.then_ ?_
    refine Cd.condD rfl (fun hc => ?_) (fun hc => ?_)
    · have hne : ts.take k ≠ [] := fun h0 => by have := congrArg List.length h0; rw [List.length_take, List.length_nil] at this; omega
      rw [if_neg hne] at hbk1
      refine Cd.region ?_
      refine Seq.val (Runs.move rfl rfl) rfl rfl rfl ?_
      refine Seq.val (Runs.nilCheck rfl rfl) rfl rfl rfl ?_
      refine Seq.val (Runs.fieldB 0 rfl rfl Try.underlying112 rfl (by kernel_rfl)) rfl rfl rfl ?_
      refine Seq.call (Enters.func rfl rfl rfl (run_enter Try.func78 (by kernel_rfl) rfl)) rfl rfl rfl ((writeS_both B g [44, 32] _ _ wr (by decide) (by simp only [List.length_append, List.length_cons, List.length_nil]; omega)).1) ?_
      clear wr
      rintro e w2 ⟨⟨_, rfl⟩, fw2, wr⟩
      refine ⟨_, rfl, ?_⟩
      replace wt := wt.wt fw2
      refine Seq.nil ?_
      refine Post.weak (F' := [(0, _), (1, _), (2, _), (3, _), (8, _), (15, _), (16, _), (17, _), (20, _)]) ⟨rfl, rfl, rfl, rfl, rfl, rfl, rfl, rfl, rfl, trivial⟩ ?_
      refine Post.then_ ?_
      refine Cd.region ?_
      refine Seq.val (Runs.move rfl rfl) rfl rfl rfl ?_
      refine Seq.val (Runs.move rfl rfl) rfl rfl rfl ?_
      refine Seq.call (Enters.value (first := []) rfl rfl rfl eg) rfl rfl rfl (one k t ht _ _ wt wr (by simp only [List.length_append, List.length_cons, List.length_nil]; omega)) ?_
      clear wr
      rintro e w10 ⟨⟨_, rfl⟩, f10, wr⟩
      refine ⟨_, rfl, ?_⟩
      replace wt := wt.wt f10
      refine Seq.nil ?_
      refine Post.weak (F' := [(0, _), (1, _), (2, _), (3, _), (8, _), (15, _), (16, _), (17, _), (20, _)]) ⟨rfl, rfl, rfl, rfl, rfl, rfl, rfl, rfl, rfl, trivial⟩ ?_
      refine Post.block_normal ?_
      refine Post.then_ ?_
      refine Cd.region ?_
      refine Seq.val (Runs.addI rfl rfl rfl (by omega) (by omega)) rfl rfl rfl ?_
      refine Seq.val (Runs.move rfl rfl) rfl rfl rfl ?_
      refine Seq.nil ?_
      refine Post.weak (F' := [(0, _), (1, _), (2, _), (3, _), (8, _), (15, _), (16, _), (17, _), (20, _)]) ⟨rfl, rfl, rfl, rfl, rfl, rfl, rfl, rfl, rfl, trivial⟩ ?_
      refine Post.round (k + 1) ⟨rfl, rfl, rfl, rfl, rfl, rfl, trivial⟩ ⟨by omega, wt, ?_⟩ (by omega)
      rw [htk, joinT_snoc, if_neg hne]
      simpa only [List.append_assoc] using wr
    · obtain rfl : k = 0 := by omega
      refine Cd.skip ?_
      refine Post.then_ ?_
      refine Cd.region ?_
      refine Seq.val (Runs.move rfl rfl) rfl rfl rfl ?_
      refine Seq.val (Runs.move rfl rfl) rfl rfl rfl ?_
      refine Seq.call (Enters.value (first := []) rfl rfl rfl eg) rfl rfl rfl (one 0 t ht _ _ wt wr (by simp only [List.length_append, List.take_zero]; simp only [joinT, List.length_nil]; omega)) ?_
      clear wr
      rintro e w10 ⟨⟨_, rfl⟩, f10, wr⟩
      refine ⟨_, rfl, ?_⟩
      replace wt := wt.wt f10
      refine Seq.nil ?_
      refine Post.weak (F' := [(0, _), (1, _), (2, _), (3, _), (8, _), (15, _), (16, _), (17, _), (20, _)]) ⟨rfl, rfl, rfl, rfl, rfl, rfl, rfl, rfl, rfl, trivial⟩ ?_
      refine Post.block_normal ?_
      refine Post.then_ ?_
      refine Cd.region ?_
      refine Seq.val (Runs.addI rfl rfl rfl (by omega) (by omega)) rfl rfl rfl ?_
      refine Seq.val (Runs.move rfl rfl) rfl rfl rfl ?_
      refine Seq.nil ?_
      refine Post.weak (F' := [(0, _), (1, _), (2, _), (3, _), (8, _), (15, _), (16, _), (17, _), (20, _)]) ⟨rfl, rfl, rfl, rfl, rfl, rfl, rfl, rfl, rfl, trivial⟩ ?_
      refine Post.round 1 ⟨rfl, rfl, rfl, rfl, rfl, rfl, trivial⟩ ⟨by omega, wt, ?_⟩ (by omega)
      rw [htk]
      simpa [joinT] using wr
  · obtain rfl : k = n := by omega
    rw [List.take_of_length_le (by omega)] at wr
    refine Cd.exit ?_
    refine Post.then_exit ?_
    refine Post.round_exit ?_
    refine Post.block_exit ?_
    refine Post.then_ ?_
    refine Cd.region ?_
    refine Seq.val (Runs.move rfl rfl) rfl rfl rfl ?_
    refine Seq.val (Runs.nilCheck rfl rfl) rfl rfl rfl ?_
    refine Seq.val (Runs.fieldB 0 rfl rfl Try.underlying112 rfl (by kernel_rfl)) rfl rfl rfl ?_
    refine Seq.call (Enters.func rfl rfl rfl (run_enter Try.func78 (by kernel_rfl) rfl)) rfl rfl rfl ((writeS_both B g [41] _ _ wr (by decide) (by simp only [List.length_append, List.length_cons, List.length_nil]; omega)).1) ?_
    clear wr
    rintro e w2 ⟨⟨_, rfl⟩, fw2, wr⟩
    refine ⟨_, rfl, ?_⟩
    replace wt := wt.wt fw2
    refine Seq.nil ?_
    refine Post.weak (F' := [(0, _), (1, _), (2, _), (3, _), (15, _), (16, _), (17, _)]) ⟨rfl, rfl, rfl, rfl, rfl, rfl, rfl, trivial⟩ ?_
    refine Post.end0 rfl (.inr rfl) ?_
    exact ⟨⟨_, rfl⟩, wt, wr⟩
end Go.Proofs.Ytijaldpmpjapiaa

