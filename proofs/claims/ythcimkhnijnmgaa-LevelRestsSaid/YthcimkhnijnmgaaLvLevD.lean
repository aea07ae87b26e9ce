/-
  level.score, level.Pick: the most pressing task. Condition: the slices lie within reach, the numbers within 62 bits, at most 100 files of at most a MiB.
-/
import Derived.Test.YthcimkhnijnmgaaLvLevC
import Derived.Test.YthcimkhnijnmgaaLvNumA
namespace Go.Proofs.Ythcimkhnijnmgaa.Lv
open Go.RowKit

/-- What RatCmp answers. -/
def ratWay (p q r s : Int) : Int :=
  wayOf (decide (p < 0) != decide (q < 0)) ((p.natAbs / Nat.gcd p.natAbs q.natAbs : Nat) : Int) ((q.natAbs / Nat.gcd p.natAbs q.natAbs : Nat) : Int)
    (decide (r < 0) != decide (s < 0)) ((r.natAbs / Nat.gcd r.natAbs s.natAbs : Nat) : Int) ((s.natAbs / Nat.gcd r.natAbs s.natAbs : Nat) : Int)
theorem div_le_u64 (a b : Nat) (h : (a : Int) ≤ 9223372036854775808) : ((a / b : Nat) : Int) < 18446744073709551616 := by
  have h1 := Nat.div_le_self a b
  have : ((a / b : Nat) : Int) ≤ (a : Int) := Int.ofNat_le.2 h1
  omega
theorem ratCmp_any (p q r s : Int) (w : World) (h0 : -9223372036854775808 ≤ p) (h1 : p ≤ 9223372036854775807) (h2 : -9223372036854775808 ≤ q) (h3 : q ≤ 9223372036854775807) (hq : q ≠ 0)
     (k0 : -9223372036854775808 ≤ r) (k1 : r ≤ 9223372036854775807) (k2 : -9223372036854775808 ≤ s) (k3 : s ≤ 9223372036854775807) (hs : s ≠ 0) :
    Calls Try.prog 31 #[.agg #[.int .i64 p, .int .i64 q], .agg #[.int .i64 r, .int .i64 s]] w fun e w' =>
      e = .returned (.tuple #[.int .i64 (ratWay p q r s), .bool true]) ∧ Below w.heap.size w w' := by
  refine ratCmp_core _ _ _ _ _ _ p q r s w rfl (Int.natCast_nonneg _) (div_le_u64 _ _ (by omega)) (Int.natCast_nonneg _) (div_le_u64 _ _ (by omega)) (Int.natCast_nonneg _) (div_le_u64 _ _ (by omega)) (Int.natCast_nonneg _) (div_le_u64 _ _ (by omega)) (by simpa using hq) (by simpa using hs) ?_ ?_
  · exact fun w => signed_any p q w h0 h1 h2 h3 hq
  · exact fun w => signed_any r s w k0 k1 k2 k3 hs
theorem wayOf_pos (n d m k : Int) : 0 < wayOf false n d false m k ↔ m * d < n * k := by
  unfold wayOf
  simp only [Bool.false_and, Bool.not_false, Bool.and_true, Bool.false_eq_true, if_false]
  split
  · omega
  · split <;> omega
/-- Of ratios that are not below nought: as the products across. -/
theorem ratWay_pos (p q r s : Int) (hp : 0 ≤ p) (hq : 0 < q) (hr : 0 ≤ r) (hs : 0 < s) : 0 < ratWay p q r s ↔ r * q < p * s := by
  obtain ⟨p, rfl⟩ := Int.eq_ofNat_of_zero_le hp
  obtain ⟨q, rfl⟩ := Int.eq_ofNat_of_zero_le (Int.le_of_lt hq)
  obtain ⟨r, rfl⟩ := Int.eq_ofNat_of_zero_le hr
  obtain ⟨s, rfl⟩ := Int.eq_ofNat_of_zero_le (Int.le_of_lt hs)
  have hq' : 0 < q := by omega
  have hs' : 0 < s := by omega
  unfold ratWay
  simp only [Int.natAbs_natCast]
  have g1 := Nat.gcd_pos_of_pos_right p hq'
  have g2 := Nat.gcd_pos_of_pos_right r hs'
  obtain ⟨n, hn⟩ := Nat.gcd_dvd_left p q
  obtain ⟨d, hd⟩ := Nat.gcd_dvd_right p q
  obtain ⟨m, hm⟩ := Nat.gcd_dvd_left r s
  obtain ⟨k, hk⟩ := Nat.gcd_dvd_right r s
  have e1 : p / Nat.gcd p q = n := Nat.div_eq_of_eq_mul_right g1 hn
  have e2 : q / Nat.gcd p q = d := Nat.div_eq_of_eq_mul_right g1 hd
  have e3 : r / Nat.gcd r s = m := Nat.div_eq_of_eq_mul_right g2 hm
  have e4 : s / Nat.gcd r s = k := Nat.div_eq_of_eq_mul_right g2 hk
  rw [e1, e2, e3, e4]
  have b1 : decide ((p : Int) < 0) = false := by simp
  have b2 : decide ((q : Int) < 0) = false := by simp
  have b3 : decide ((r : Int) < 0) = false := by simp
  have b4 : decide ((s : Int) < 0) = false := by simp
  rw [b1, b2, b3, b4, show (false != false) = false from rfl]
  have hc : ((r : Int) * q < p * s) ↔ ((m : Int) * d < n * k) := by
    have x1 : r * q = (Nat.gcd p q * Nat.gcd r s) * (m * d) := by
      have : r * q = (Nat.gcd r s * m) * (Nat.gcd p q * d) := by rw [← hm, ← hd]
      rw [this]; simp only [Nat.mul_assoc, Nat.mul_comm, Nat.mul_left_comm]
    have x2 : p * s = (Nat.gcd p q * Nat.gcd r s) * (n * k) := by
      have : p * s = (Nat.gcd p q * n) * (Nat.gcd r s * k) := by rw [← hn, ← hk]
      rw [this]; simp only [Nat.mul_assoc, Nat.mul_comm, Nat.mul_left_comm]
    have y : r * q < p * s ↔ m * d < n * k := by rw [x1, x2]; exact Nat.mul_lt_mul_left (Nat.mul_pos g1 g2)
    constructor
    · intro h; have h' : r * q < p * s := by exact_mod_cast h
      exact_mod_cast y.1 h'
    · intro h; have h' : m * d < n * k := by exact_mod_cast h
      exact_mod_cast y.2 h'
  exact (wayOf_pos _ _ _ _).trans hc.symm

def sumSize : List File → Int
  | [] => 0
  | f :: l => f.size + sumSize l
theorem sumSize_snoc (l : List File) (f : File) : sumSize (l ++ [f]) = sumSize l + f.size := by
  induction l with
  | nil => simp [sumSize]
  | cons g l ih => simp only [List.cons_append, sumSize, ih]; omega
theorem sumSize_bd (l : List File) (h : ∀ f ∈ l, 0 ≤ f.size ∧ f.size ≤ 1048576) : 0 ≤ sumSize l ∧ sumSize l ≤ 1048576 * l.length := by
  induction l with
  | nil => exact ⟨by decide, by decide⟩
  | cons f l ih =>
    have h1 := ih fun x hx => h x (List.mem_cons_of_mem _ hx)
    have h2 := h f List.mem_cons_self
    simp only [sumSize, List.length_cons]
    omega
def limOf (base times : Int) : Nat → Int
  | 0 => base
  | k + 1 => limOf base times k * times
theorem mul_bd (a b x y : Int) (h0 : 1 ≤ a) (h1 : a ≤ x) (h2 : 1 ≤ b) (h3 : b ≤ y) : 1 ≤ a * b ∧ a * b ≤ x * y :=
  ⟨by have := Int.mul_le_mul h0 h2 (by decide) (by omega); simpa using this, Int.mul_le_mul h1 h3 (by omega) (by omega)⟩
theorem limOf_bd (base times : Int) (h0 : 1 ≤ base) (h1 : base ≤ 1048576) (h2 : 1 ≤ times) (h3 : times ≤ 20) (k : Nat) (hk : k ≤ 3) : 1 ≤ limOf base times k ∧ limOf base times k ≤ 8388608000 := by
  have a1 := mul_bd _ _ _ _ h0 h1 h2 h3
  have a2 := mul_bd _ _ _ _ a1.1 a1.2 h2 h3
  have a3 := mul_bd _ _ _ _ a2.1 a2.2 h2 h3
  match k, hk with
  | 0, _ => exact ⟨h0, by show base ≤ _; omega⟩
  | 1, _ => exact ⟨a1.1, by show base * times ≤ _; omega⟩
  | 2, _ => exact ⟨a2.1, by show base * times * times ≤ _; omega⟩
  | 3, _ => exact ⟨a3.1, by show base * times * times * times ≤ _; omega⟩
def atLevel (fs : List File) (n : Int) : List File := fs.filter (·.level == n)
def scoreN (fs : List File) (n : Int) : Int := if n = 0 then ((atLevel fs n).length : Int) else sumSize (atLevel fs n)
def scoreM (c : Cfg) (n : Int) : Int := if n = 0 then c.zero else limOf c.base c.times (n - 1).toNat

set_option maxHeartbeats 800000 in
set_option maxRecDepth 100000 in
theorem score_any (B : Nat) (A : Option Addr) (len cap : Nat) (fs : List File) (c : Cfg) (lg nx sq n : Int) (w : World) (hlen : len ≤ 1000000) (hr : Reads w B 6 A len (cellsOf fs)) (hB : B ≤ w.heap.size)
    (hsz : ∀ f ∈ fs, 0 ≤ f.size ∧ f.size ≤ 1048576) (h0 : 1 ≤ c.base) (h1 : c.base ≤ 1048576) (h2 : 1 ≤ c.times) (h3 : c.times ≤ 20) (hn0 : 0 ≤ n) (hn1 : n ≤ 3) :
    Calls Try.prog 30 #[.agg #[.int .i64 lg, .int .i64 nx, .int .i64 sq, .slice A len cap], .agg #[.int .i64 c.zero, .int .i64 c.base, .int .i64 c.times, .int .i64 c.table], .int .i64 n] w fun e w' =>
      e = .returned (.tuple #[.int .i64 (scoreN fs n), .int .i64 (scoreM c n)]) ∧ Below w.heap.size w w' := by
  have Hlf := Lib.hid (length_of_cells hr)
  have hfl := List.length_filter_le (fun x : File => x.level == n) fs
  rw [Hlf.out] at hfl
  have Hr := Lib.hid hr
  have hsz' := Lib.hid (show ∀ f ∈ atLevel fs n, 0 ≤ f.size ∧ f.size ≤ 1048576 from fun f hf => hsz f (List.mem_filter.1 hf).1)
  clear hr hsz
  go_enter Try.func30, Try.ntmps30
  go_wp2_with fail
  refine (level_any A len cap fs lg nx sq n _ (by omega) (((Hr.out.alloc hB _).alloc (by simp; omega) _).more (by simp; omega))).mono ?_
  obtain ⟨m, hm⟩ : ∃ m, (fs.filter (·.level == n)).length = m := ⟨_, rfl⟩
  rw [hm] at hfl ⊢
  have Hm := Lib.hid hm
  clear hm
  rintro e w1 ⟨v, rfl, hown, hb1⟩
  obtain ⟨A1, c1, rfl, hr1⟩ := reads_own hown
  have hg := (hb1.block (w.heap.size + 1) (by simp)).trans (heap_alloc2_new w _ _)
  have hbw := (((Below.refl w.heap.size w).alloc (Nat.le_refl _) (.cells #[.int .i64 lg, .int .i64 nx, .int .i64 sq, .slice A len cap] 29)).alloc (by simp) (.cells #[.int .i64 c.zero, .int .i64 c.base, .int .i64 c.times, .int .i64 c.table] 50)).trans (hb1.mono (by simp; omega))
  have hz : w.heap.size + 1 < w1.heap.size := by have := hb1.size; simp at this; omega
  obtain ⟨b0, b1, b2, b3⟩ := row4 hg
  clear hb1 hown hg
  by_cases hn : n = 0
  · have e1 := Lib.hid (show scoreN fs n = (m : Int) by unfold scoreN; rw [if_pos hn, atLevel, Hm.out])
    have e2 := Lib.hid (show scoreM c n = c.zero by unfold scoreM; rw [if_pos hn])
    have hnb : (n == 0) = true := by simpa using hn
    clear hn
    go_wp2_with fail
    go_quiet (fail)
    go_wp2_with fail
    go_ret2
    rw [e1.out, e2.out]
    exact ⟨rfl, hbw.drewN _⟩
  · have e1 := Lib.hid (show scoreN fs n = sumSize (atLevel fs n) by unfold scoreN; rw [if_neg hn])
    have e2 := Lib.hid (show scoreM c n = limOf c.base c.times (n - 1).toNat by unfold scoreM; rw [if_neg hn])
    have hnb : (n == 0) = false := by simpa using hn
    have hn2 : 1 ≤ n := by omega
    clear hn
    go_wp2_with fail
    go_quiet (fail)
    go_wp2_with fail
    go_loopw [9, 26] (fun u i wr => ∃ k : Nat, k ≤ m ∧ i = .int .i64 k ∧ u = .int .i64 (sumSize ((atLevel fs n).take k)) ∧ Below w1.heap.size w1 wr)
      (fun _ i _ => m - (intOf i).toNat)
    case atStart => exact ⟨0, Nat.zero_le _, rfl, rfl, (Below.refl _ _).drewN _⟩
    case round =>
      obtain ⟨k, hk, rfl, rfl, hb⟩ := hrel
      have hs := sumSize_bd ((atLevel fs n).take k) fun f hf => hsz'.out f (List.mem_of_mem_take hf)
      have hkl : ((atLevel fs n).take k).length ≤ k := List.length_take_le _ _
      have hzr := hb.size
      by_cases hlt : k < m
      · obtain ⟨ad, f, rfl, hbl, hf, c0, c1, c2, c3, c4, c5⟩ := hr1.file hb (Nat.le_refl _) hlt
        have hsf := hsz'.out f (List.mem_of_getElem? hf)
        have hsn := Lib.hid (show sumSize ((atLevel fs n).take (k + 1)) = sumSize ((atLevel fs n).take k) + f.size by rw [List.take_add_one, show (atLevel fs n)[k]? = some f from hf]; exact sumSize_snoc _ _)
        clear hf
        go_wp2_with fail
        go_roundw
        case rel => exact ⟨k + 1, by omega, by go_num, by rw [hsn.out], hb.alloc hzr _⟩
        case measure => simp [intOf]; omega
      · have hall := Lib.hid (show (atLevel fs n).take k = atLevel fs n from List.take_of_length_le (by unfold atLevel; rw [Hm.out]; omega))
        have d2 := (hb.cell (p := ⟨w.heap.size + 1, 2, none⟩) hz).trans b2
        rw [hall.out] at hs ⊢
        go_wp2_with fail
        go_loopw [10, 37] (fun u i wq => ∃ k : Nat, (k : Int) ≤ n - 1 ∧ i = .int .i64 k ∧ u = .int .i64 (limOf c.base c.times k) ∧ wq = wr)
          (fun _ i _ => ((n - 1) - intOf i).toNat)
        case atStart => exact ⟨0, by omega, rfl, rfl, rfl⟩
        case round =>
          obtain ⟨k', hk', rfl, rfl, rfl⟩ := hrel
          by_cases hlt' : (k' : Int) < n - 1
          · have hl := limOf_bd c.base c.times h0 h1 h2 h3 (k' + 1) (by omega)
            have hl2 : 1 ≤ limOf c.base c.times k' * c.times ∧ limOf c.base c.times k' * c.times ≤ 8388608000 := hl
            clear hl
            go_wp2_with fail
            go_roundw
            case rel => exact ⟨k' + 1, by omega, by go_num, by first | rfl | trivial, by first | rfl | trivial⟩
            case measure => simp [intOf]; omega
          · have hk2 := Lib.hid (show (n - 1).toNat = k' by omega)
            go_wp2_with fail
            go_ret2
            rw [e1.out, e2.out, hk2.out]
            exact ⟨rfl, hbw.trans (hb.mono (by omega))⟩

def pickStep (fs : List File) (c : Cfg) (s : Int × Int × Int) (i : Nat) : Int × Int × Int :=
  if scoreM c i ≤ scoreN fs i ∧ (s.1 < 0 ∨ s.2.1 * scoreM c i < scoreN fs i * s.2.2) then (i, scoreN fs i, scoreM c i) else s
def pickTo (fs : List File) (c : Cfg) : Nat → Int × Int × Int
  | 0 => (-1, 0, 1)
  | k + 1 => pickStep fs c (pickTo fs c k) k

theorem score_bd (fs : List File) (c : Cfg) (i : Nat) (hi : i ≤ 3) (hlen : fs.length ≤ 1000000) (hsz : ∀ f ∈ fs, 0 ≤ f.size ∧ f.size ≤ 1048576) (hz0 : 1 ≤ c.zero) (hz1 : c.zero ≤ 50) (h0 : 1 ≤ c.base) (h1 : c.base ≤ 1048576) (h2 : 1 ≤ c.times) (h3 : c.times ≤ 20) :
    0 ≤ scoreN fs i ∧ scoreN fs i ≤ 1048576000000 ∧ 1 ≤ scoreM c i ∧ scoreM c i ≤ 1048576000000 := by
  have hl : (atLevel fs i).length ≤ fs.length := List.length_filter_le _ _
  have hs := sumSize_bd (atLevel fs i) fun f hf => hsz f (List.mem_filter.1 hf).1
  have hm := limOf_bd c.base c.times h0 h1 h2 h3 ((i : Int) - 1).toNat (by omega)
  unfold scoreN scoreM
  split <;> omega
theorem pickTo_bd (fs : List File) (c : Cfg) (hlen : fs.length ≤ 1000000) (hsz : ∀ f ∈ fs, 0 ≤ f.size ∧ f.size ≤ 1048576) (hz0 : 1 ≤ c.zero) (hz1 : c.zero ≤ 50) (h0 : 1 ≤ c.base) (h1 : c.base ≤ 1048576) (h2 : 1 ≤ c.times) (h3 : c.times ≤ 20) (k : Nat) (hk : k ≤ 4) :
    -1 ≤ (pickTo fs c k).1 ∧ (pickTo fs c k).1 ≤ 3 ∧ 0 ≤ (pickTo fs c k).2.1 ∧ (pickTo fs c k).2.1 ≤ 1048576000000 ∧ 1 ≤ (pickTo fs c k).2.2 ∧ (pickTo fs c k).2.2 ≤ 1048576000000 := by
  induction k with
  | zero => simp [pickTo]
  | succ k ih =>
    have h := ih (by omega)
    have hb := score_bd fs c k (by omega) hlen hsz hz0 hz1 h0 h1 h2 h3
    simp only [pickTo, pickStep]
    split
    · simp only
      omega
    · exact h

/-- What the walk of Pick keeps. -/
structure PS (w W : World) (vs cs : Array Value) : Prop where
  box : W.heap[w.heap.size]? = some (.cells vs 29 (0, 0))
  cfg : W.heap[w.heap.size + 1]? = some (.cells cs 50 (0, 0))
  res : W.heap[w.heap.size + 2]? = some (.cells #[.int .i64 0, .slice none 0 0, .slice none 0 0, .bool false] 33 (0, 0))
  size : w.heap.size + 2 < W.heap.size
  below : Below w.heap.size w W
theorem PS.step {w W W' : World} {vs cs : Array Value} (h : PS w W vs cs) (hb : Below W.heap.size W W') : PS w W' vs cs :=
  have hs := h.size
  ⟨(hb.block _ (by omega)).trans h.box, (hb.block _ (by omega)).trans h.cfg, (hb.block _ h.size).trans h.res, Nat.lt_of_lt_of_le h.size hb.size, h.below.trans (hb.mono (by omega))⟩
theorem PS.start {w W' : World} {vs cs : Array Value} (hb : Below (((w.alloc (.cells vs 29)).alloc (.cells cs 50)).alloc (.cells #[.int .i64 0, .slice none 0 0, .slice none 0 0, .bool false] 33)).heap.size
    (((w.alloc (.cells vs 29)).alloc (.cells cs 50)).alloc (.cells #[.int .i64 0, .slice none 0 0, .slice none 0 0, .bool false] 33)) W') : PS w W' vs cs :=
  ⟨(hb.block _ (by simp; omega)).trans ((Below.heap_alloc _ _ _ (by simp <;> omega)).trans (heap_alloc2_old w _ _)), (hb.block _ (by simp <;> omega)).trans ((Below.heap_alloc _ _ _ (by simp <;> omega)).trans (heap_alloc2_new w _ _)),
    (hb.block _ (by simp)).trans (by have := heap_alloc_new ((w.alloc (.cells vs 29)).alloc (.cells cs 50)) (.cells #[.int .i64 0, .slice none 0 0, .slice none 0 0, .bool false] 33); simpa using this),
    by have := hb.size; simp at this; omega, ((((Below.refl w.heap.size w).alloc (Nat.le_refl _) _).alloc (by simp) _).alloc (by simp <;> omega) _).trans (hb.mono (by simp; omega))⟩
theorem PS.set {w W W' : World} {vs cs cs' : Array Value} (h : PS w W vs cs) (hg : W'.heap[w.heap.size + 1]? = some (.cells cs' 50 (0, 0))) (hgr : W.grownBy W' (some (w.heap.size + 1))) : PS w W' vs cs' :=
  have hs := h.size
  ⟨(hgr.block _ (by omega) (by simp)).trans h.box, hg, (hgr.block _ (by omega) (by simp)).trans h.res, Nat.lt_of_lt_of_le h.size hgr.size, h.below.grown hgr (by omega) (fun k hk => by injection hk with hk; omega)⟩
theorem PS.drewN {w W : World} {vs cs : Array Value} (h : PS w W vs cs) (n : Nat) : PS w (W.drewN n) vs cs := ⟨h.box, h.cfg, h.res, h.size, h.below.drewN n⟩

set_option maxHeartbeats 1600000 in
set_option maxRecDepth 100000 in
theorem pick_any (B : Nat) (A : Option Addr) (len cap : Nat) (fs : List File) (c0 : Cfg) (lg nx sq : Int) (w : World) (hlen : len ≤ 1000000) (hr : Reads w B 6 A len (cellsOf fs)) (hB : B ≤ w.heap.size)
    (hnum : ∀ f ∈ fs, 0 ≤ f.num ∧ f.num ≤ 4611686018427387904) (hsz : ∀ f ∈ fs, 0 ≤ f.size ∧ f.size ≤ 1048576) :
    Calls Try.prog 12 #[.agg #[.int .i64 lg, .int .i64 nx, .int .i64 sq, .slice A len cap], .agg #[.int .i64 c0.zero, .int .i64 c0.base, .int .i64 c0.times, .int .i64 c0.table]] w fun e w' =>
      Took w.heap.size fs (pickTo fs c0.fit 4).1 e w' ∧ Below w.heap.size w w' := by
  have hlf := length_of_cells hr
  obtain ⟨c, hc⟩ : ∃ c, c = c0.fit := ⟨_, rfl⟩
  have z0 : 1 ≤ c.zero ∧ c.zero ≤ 50 := by rw [hc]; exact clamp_bd _ _ _ (by decide)
  have z1 : 1 ≤ c.base ∧ c.base ≤ 1048576 := by rw [hc]; exact clamp_bd _ _ _ (by decide)
  have z2 : 2 ≤ c.times ∧ c.times ≤ 20 := by rw [hc]; exact clamp_bd _ _ _ (by decide)
  have Hfit : ∀ w, Hid (Calls Try.prog 29 #[.agg #[.int .i64 c0.zero, .int .i64 c0.base, .int .i64 c0.times, .int .i64 c0.table]] w fun e w' => e = .returned (.agg #[.int .i64 c.zero, .int .i64 c.base, .int .i64 c.times, .int .i64 c.table]) ∧ Below w.heap.size w w') := by rw [hc]; exact fun w => fitCfg_x c0 w
  rw [← hc]
  have Hpb := fun k hk => Lib.hid (pickTo_bd fs c (by omega) hsz z0.1 z0.2 z1.1 z1.2 (by omega) z2.2 k hk)
  have Hsb := fun i hi => Lib.hid (score_bd fs c i hi (by omega) hsz z0.1 z0.2 z1.1 z1.2 (by omega) z2.2)
  have Hr := Lib.hid hr
  have Hnum := Lib.hid hnum
  have Hsz := Lib.hid hsz
  obtain ⟨i0, hi0, hz0, hz1, _⟩ := info_parts infoCfg
  obtain ⟨i1, hi1, hy0, hy1, _⟩ := info_parts infoTask
  clear hr hnum hsz hc hlf
  go_enter Try.func12, Try.ntmps12
  go_wp2_with fail
  refine (Hfit _).out.mono ?_
  rintro e w1 ⟨rfl, hb1⟩
  have ps1 := PS.start hb1
  have hg := ps1.cfg
  have HP1 := Lib.hid ps1
  clear hb1 ps1
  go_wp2_with (refine wpList_store_row rfl _ (.tmp 3) (.tmp 15) rfl rfl (w.heap.size + 1) 0 rfl #[.int .i64 c.zero, .int .i64 c.base, .int .i64 c.times, .int .i64 c.table] rfl i0 hi0 hz1 (by simp [Value.oneCell']) _ _ hg (by simp) ?_; intro w2 hg2 hgr2 hsz2)
  have HP2 := Lib.hid (HP1.out.set hg2 hgr2)
  clear HP1 hg hg2 hgr2 hsz2
  go_loopw [6, 7, 8, 16] (fun u v x i wr => ∃ k : Nat, k ≤ 4 ∧ i = .int .i64 k ∧ u = .int .i64 (pickTo fs c k).1 ∧ v = .int .i64 (pickTo fs c k).2.1 ∧ x = .int .i64 (pickTo fs c k).2.2 ∧
      PS w wr #[.int .i64 lg, .int .i64 nx, .int .i64 sq, .slice A len cap] #[.int .i64 c.zero, .int .i64 c.base, .int .i64 c.times, .int .i64 c.table])
    (fun _ _ _ i _ => 4 - (intOf i).toNat)
  case atStart => exact ⟨0, Nat.zero_le _, rfl, rfl, rfl, rfl, HP2.out⟩
  case round =>
    obtain ⟨k, hk, rfl, rfl, rfl, rfl, ps⟩ := hrel
    obtain ⟨p1, p2, p3, p4, p5, p6⟩ := (Hpb k hk).out
    obtain ⟨⟨best, has, may⟩, hst⟩ : ∃ s, s = pickTo fs c k := ⟨_, rfl⟩
    have Hst := Lib.hid hst
    rw [← hst] at p1 p2 p3 p4 p5 p6 ⊢
    simp only at p1 p2 p3 p4 p5 p6
    obtain ⟨b0, b1, b2, b3⟩ := row4 ps.box
    obtain ⟨d0, d1, d2, d3⟩ := row4 ps.cfg
    have HP := Lib.hid ps
    have hbw := ps.below
    have hszr := ps.size
    clear ps hst HP2
    by_cases hlt : k < 4
    · obtain ⟨q1, q2, q3, q4⟩ := (Hsb k (by omega)).out
      go_wp2_with fail
      refine (score_any _ A len cap fs c lg nx sq k _ hlen (Hr.out.below (hbw.mono hB)) (by omega) Hsz.out z1.1 z1.2 (by omega) z2.2 (by omega) (by omega)).mono ?_
      rintro e w3 ⟨rfl, hb3⟩
      obtain ⟨n, hn⟩ : ∃ n, n = scoreN fs k := ⟨_, rfl⟩
      obtain ⟨m, hm⟩ : ∃ m, m = scoreM c k := ⟨_, rfl⟩
      rw [← hn, ← hm]
      rw [← hn] at q1 q2
      rw [← hm] at q3 q4
      have HP3 := Lib.hid (HP.out.step hb3)
      have Hn := Lib.hid hn
      have Hm := Lib.hid hm
      clear hn hm hb3 b0 b1 b2 b3 d0 d1 d2 d3 hbw
      go_wp2_with fail
      refine (ratCmp_any n m has may _ (by omega) (by omega) (by omega) (by omega) (by omega) (by omega) (by omega) (by omega) (by omega) (by omega)).mono ?_
      rintro e w4 ⟨rfl, hb4⟩
      have hiff := ratWay_pos n m has may q1 (by omega) p3 (by omega)
      obtain ⟨r, hrr⟩ : ∃ r, r = ratWay n m has may := ⟨_, rfl⟩
      rw [← hrr] at hiff ⊢
      have HP4 := Lib.hid (HP3.out.step hb4)
      have Hiff := Lib.hid hiff
      clear hrr hiff hb4
      have hnext : pickTo fs c (k + 1) = if m ≤ n ∧ (best < 0 ∨ has * m < n * may) then ((k : Int), n, m) else (best, has, may) := by
        show pickStep fs c (pickTo fs c k) k = _
        rw [← Hst.out, Hn.out, Hm.out]; rfl
      have Hnext := Lib.hid hnext
      clear hnext
      go_wp2_with fail
      all_goals
        have hx := Hiff.out
        go_roundw
      all_goals first
        | (case rel => exact ⟨k + 1, by omega, by go_num, by rw [Hnext.out, if_pos ⟨by omega, by omega⟩], by rw [Hnext.out, if_pos ⟨by omega, by omega⟩], by rw [Hnext.out, if_pos ⟨by omega, by omega⟩], HP4.out⟩)
        | (case rel => exact ⟨k + 1, by omega, by go_num, by rw [Hnext.out, if_neg (by omega)], by rw [Hnext.out, if_neg (by omega)], by rw [Hnext.out, if_neg (by omega)], HP4.out⟩)
        | (case measure => simp [intOf]; omega)
    · obtain rfl : k = 4 := by omega
      go_wp2_with fail
      refine (take_any _ A len cap fs lg nx sq best _ (by omega) (Hr.out.below (hbw.mono hB)) (by omega) Hnum.out).mono ?_
      rintro e w5 ⟨hT, hb5⟩
      have ps5 := HP.out.step hb5
      have hg5 := ps5.res
      have HP5 := Lib.hid ps5
      clear hb5 ps5 b0 b1 b2 b3 d0 d1 d2 d3
      have hbest := Lib.hid (show (pickTo fs c 4).1 = best by rw [← Hst.out])
      rcases hT with ⟨hnil, rfl⟩ | ⟨hne, va, vb, rfl, hva, hvb⟩
      · have Hnil := Lib.hid hnil
        clear hnil
        go_wp2_with (refine wpList_store_row rfl _ (.tmp 4) (.tmp 54) rfl rfl (w.heap.size + 2) 0 rfl #[.int .i64 0, .slice none 0 0, .slice none 0 0, .bool false] rfl i1 hi1 hy1 (by simp [Value.oneCell']) _ _ hg5 (by simp) ?_; intro w6 hg6 hgr6 hz6)
        have hT := HP5.out
        exact bodyPost_ret (v := .tuple #[.agg #[.int .i64 0, .slice none 0 0, .slice none 0 0, .bool false], .bool false]) (by rw [results_cell_tmp rfl _ _ _ _ _ rfl hg6 rfl Try.underlying33 (by rw [hi1]; simp [hy1])]; rfl) rfl (by show Took _ _ (pickTo fs c 4).1 _ _ ∧ _; rw [hbest.out]; exact ⟨.inl ⟨Hnil.out, rfl⟩, hT.below.grown hgr6 (by have := hT.size; omega) (fun k hk => by injection hk with hk; omega)⟩)
      · have Hne := Lib.hid hne
        obtain ⟨Aa, ca, rfl, -⟩ := reads_own hva
        obtain ⟨Ab, cb, rfl, -⟩ := reads_own hvb
        have HA := Lib.hid (own_base hva (show w.heap.size ≤ _ by omega))
        have HB := Lib.hid (own_base hvb (show w.heap.size ≤ _ by omega))
        obtain ⟨na, hna⟩ : ∃ n, n = (takeFrom fs best).length := ⟨_, rfl⟩
        obtain ⟨nb, hnb⟩ : ∃ n, n = (takeInto fs best).length := ⟨_, rfl⟩
        obtain ⟨bb, hbb⟩ : ∃ b, b = (decide (0 < best) && (takeInto fs best).isEmpty) := ⟨_, rfl⟩
        rw [← hna, ← hnb, ← hbb]
        have Hna := Lib.hid hna
        have Hnb := Lib.hid hnb
        have Hbb := Lib.hid hbb
        clear hne hva hvb hna hnb hbb
        go_wp2_with (refine wpList_store_row rfl _ (.tmp 4) (.tmp 54) rfl rfl (w.heap.size + 2) 0 rfl #[.int .i64 best, .slice Aa na ca, .slice Ab nb cb, .bool bb] rfl i1 hi1 hy1 (by simp [Value.oneCell']) _ _ hg5 (by simp) ?_; intro w6 hg6 hgr6 hz6)
        have hT := HP5.out
        refine bodyPost_ret (v := .tuple #[.agg #[.int .i64 best, .slice Aa na ca, .slice Ab nb cb, .bool bb], .bool true]) (by rw [results_cell_tmp rfl _ _ _ _ _ rfl hg6 rfl Try.underlying33 (by rw [hi1]; simp [hy1])]; rfl) rfl ?_
        show Took _ _ (pickTo fs c 4).1 _ _ ∧ _
        rw [hbest.out]
        refine ⟨.inr ⟨Hne.out, .slice Aa na ca, .slice Ab nb cb, by rw [Hbb.out], ?_, ?_⟩, hT.below.grown hgr6 (by have := hT.size; omega) (fun k hk => by injection hk with hk; omega)⟩
        · have h := HA.out
          exact Hna.out ▸ h.kept hgr6 (own_ne_blk h hg5 (by decide))
        · have h := HB.out
          exact Hnb.out ▸ h.kept hgr6 (own_ne_blk h hg5 (by decide))
end Go.Proofs.Ythcimkhnijnmgaa.Lv
