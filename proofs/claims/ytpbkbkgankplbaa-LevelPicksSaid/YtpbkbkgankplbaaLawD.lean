/-
  level.Holding, Bottom; plain facts on how strings compare. Condition: the slices lie within reach.
-/
import Derived.Test.YtpbkbkgankplbaaLawC
namespace Go.Proofs.Ytpbkbkgankplbaa
open Go.RowKit

theorem less_total : ∀ a b : List UInt8, (Op.bytesLess a b || a == b) = !Op.bytesLess b a
  | [], [] => rfl
  | [], b :: y => rfl
  | a :: x, [] => rfl
  | a :: x, b :: y => by
    have ih := less_total x y
    simp only [Op.bytesLess]
    by_cases h : a = b
    · subst h
      have h1 : (a < a : Bool) = false := by simp
      simp only [h1, Bool.false_or, beq_self_eq_true, Bool.true_and]
      rw [← ih]
      simp
    · have h1 : (a == b) = false := by simpa using h
      have h2 : (b == a) = false := by simpa using fun e => h e.symm
      have h3 : ((a :: x) == (b :: y)) = false := by simp [h]
      rw [h1, h2, h3]
      simp only [Bool.false_and, Bool.or_false]
      rcases Nat.lt_trichotomy a.toNat b.toNat with hlt | he | hgt
      · have e1 : (decide (a < b)) = true := by simp [UInt8.lt_iff_toNat_lt, hlt]
        have e2 : (decide (b < a)) = false := by simp [UInt8.lt_iff_toNat_lt]; omega
        rw [e1, e2]; rfl
      · exact absurd (UInt8.toNat_inj.1 he) h
      · have e1 : (decide (a < b)) = false := by simp [UInt8.lt_iff_toNat_lt]; omega
        have e2 : (decide (b < a)) = true := by simp [UInt8.lt_iff_toNat_lt, hgt]
        rw [e1, e2]; rfl
theorem less_lt : ∀ a b : List UInt8, Op.bytesLess a b = decide (a < b)
  | [], [] => by simp [Op.bytesLess]
  | [], b :: y => by simp [Op.bytesLess]
  | a :: x, [] => by simp [Op.bytesLess]
  | a :: x, b :: y => by
    simp only [Op.bytesLess, less_lt x y]
    rw [Bool.eq_iff_iff]
    simp [List.cons_lt_cons_iff]
theorem inL_out (n : Int) (lo hi : ByteArray) (f : File) : inL n lo hi f = (f.level == n && !outB lo hi f) := by
  unfold inL outB leB
  rw [less_total]
  cases (f.level == n) <;> cases Op.bytesLess hi.toList lo.toList <;> cases Op.bytesLess f.last.toList lo.toList <;> cases Op.bytesLess hi.toList f.first.toList <;> rfl
theorem inL_within (fs : List File) (n : Int) (lo hi : ByteArray) : fs.filter (inL n lo hi) = withinS fs n lo hi := by
  unfold withinS
  rw [List.filter_filter]
  congr 1
  funext f
  rw [inL_out, Bool.and_comm]
theorem minS_less (a x : ByteArray) : Lib.minS a x = if Op.bytesLess x.toList a.toList = true then x else a := by
  have ht := less_total a.toList x.toList
  unfold Lib.minS
  rw [ByteArray.toList_eq, ByteArray.toList_eq] at ht ⊢
  rw [less_lt, less_lt] at ht
  rw [less_lt]
  by_cases h : x.data.toList < a.data.toList
  · rw [decide_eq_true h] at ht ⊢
    simp only [Bool.not_true, Bool.or_eq_false_iff, decide_eq_false_iff_not, beq_eq_false_iff_ne, ne_eq] at ht
    rw [if_pos rfl, if_neg (by intro h'; rcases h' with h' | h'; exact ht.1 h'; exact ht.2 h')]
  · rw [decide_eq_false h] at ht ⊢
    simp only [Bool.not_false, Bool.or_eq_true, decide_eq_true_eq, beq_iff_eq] at ht
    rw [if_pos ht, if_neg (by decide)]
theorem maxS_less (a x : ByteArray) : Lib.maxS a x = if (!Op.bytesLess x.toList a.toList && !(x.toList == a.toList)) = true then x else a := by
  have ht := less_total x.toList a.toList
  have e : (!Op.bytesLess x.toList a.toList && !(x.toList == a.toList)) = Op.bytesLess a.toList x.toList := by rw [← Bool.not_or, ht, Bool.not_not]
  rw [e]
  unfold Lib.maxS
  rw [ByteArray.toList_eq, ByteArray.toList_eq, less_lt]
  by_cases h : a.data.toList < x.data.toList
  · rw [if_pos h, decide_eq_true h, if_pos rfl]
  · rw [if_neg h, decide_eq_false h, if_neg (by decide)]

def holdB (key : ByteArray) (f : File) : Bool := leB f.first key && leB key f.last
set_option maxHeartbeats 800000 in
set_option maxRecDepth 100000 in
theorem holding_any (B : Nat) (A : Option Addr) (len cap : Nat) (fs : List File) (lg nx sq : Int) (key : ByteArray) (w : World) (hlen : len * 64 ≤ 140737488351232) (hr : Reads w B 6 A len (cellsOf fs)) (hB : B ≤ w.heap.size) :
    Calls Try.prog 24 #[.agg #[.int .i64 lg, .int .i64 nx, .int .i64 sq, .slice A len cap], .string key] w fun e w' =>
      ∃ v, e = .returned v ∧ w'.ownsRow w.heap.size 60 6 v (fs.filter (holdB key)).length (cellsOf (fs.filter (holdB key))) ∧ Below w.heap.size w w' := by
  obtain ⟨i0, hi0, hz0, hz1, hz2⟩ := info_parts info60
  have Hlf := Lib.hid (length_of_cells hr)
  go_enter Try.func24, Try.ntmps24
  go_wp2_with fail
  go_loopw [5, 11] (fun v i wr => ∃ k : Nat, k ≤ len ∧ i = .int .i64 k ∧ wr.ownsRow w.heap.size 60 6 v ((fs.take k).filter (holdB key)).length (cellsOf ((fs.take k).filter (holdB key))) ∧ Below w.heap.size w wr)
    (fun _ i _ => len - (intOf i).toNat)
  case atStart => exact ⟨0, Nat.zero_le _, rfl, World.ownsRow_nil _ _ _ _, (Below.refl _ _).alloc (Nat.le_refl _) _⟩
  case round =>
    obtain ⟨k, hk, rfl, hown, hb⟩ := hrel
    by_cases hlt : k < len
    · obtain ⟨ad, f, rfl, hbl, hf, c0, c1, c2, c3, c4, c5⟩ := hr.file hb hB hlt
      have hm : ((fs.take k).filter (holdB key)).length ≤ k := Nat.le_trans (List.length_filter_le _ _) (List.length_take_le _ _)
      have hz := hb.size
      cases hin : holdB key f
      · have e1 := Lib.hid (filter_miss (holdB key) fs k f hf hin)
        have hany := hin
        unfold holdB leB at hany
        clear hf hin
        cases h1 : (Op.bytesLess f.first.toList key.toList || f.first.toList == key.toList)
        case false =>
          clear hany
          go_wp2_with fail
          go_roundw
          case rel => exact ⟨k + 1, by omega, by go_num, by rw [e1.out]; exact hown.alloc _, hb.alloc hz _⟩
          case measure => simp [intOf]; omega
        case true =>
          have h2 : (Op.bytesLess key.toList f.last.toList || key.toList == f.last.toList) = false := by rw [h1] at hany; simpa using hany
          clear hany
          go_wp2_with fail
          go_roundw
          case rel => exact ⟨k + 1, by omega, by go_num, by rw [e1.out]; exact hown.alloc _, hb.alloc hz _⟩
          case measure => simp [intOf]; omega
      · have e1 := Lib.hid (filter_hit (holdB key) fs k f hf hin)
        have hany := hin
        unfold holdB leB at hany
        have h1 : (Op.bytesLess f.first.toList key.toList || f.first.toList == key.toList) = true := (Bool.and_eq_true_iff.1 hany).1
        have h2 : (Op.bytesLess key.toList f.last.toList || key.toList == f.last.toList) = true := (Bool.and_eq_true_iff.1 hany).2
        clear hf hin hany
        go_wp2_with (at_builtin; refine wpList_append_one rfl (.tmp 25) (.tmp 27) _ rfl w.heap.size _ i0 _ 6 64 Try.underlying32 hi0 hz0 hz1 hz2 rfl (by decide) (wr.alloc _) #[.int .i64 f.num, .int .i64 f.level, .string f.first, .string f.last, .int .i64 f.count, .int .i64 f.size] _ _ _ rfl (hown.alloc _) _ (by simp) rfl rfl (by simp [Value.oneCell']) (by simp only [maxLen]; omega) (by simp; omega) ?_; intro v' w' hown' hb' hz')
        go_roundw
        case rel => exact ⟨k + 1, by omega, by go_num, by rw [e1.out, List.length_append, cellsOf_snoc]; exact hown', hb' _ _ (Nat.le_refl _) (hb.alloc hz _)⟩
        case measure => simp [intOf]; omega
    · obtain rfl : k = len := by omega
      have e1 := Lib.hid (show (fs.take k) = fs from List.take_of_length_le (by rw [Hlf.out]; omega))
      go_wp2_with fail
      go_ret
      rw [e1.out] at hown
      exact ⟨_, rfl, hown, hb⟩

def aboveB (n : Int) (f : File) : Bool := decide (n < f.level)
theorem above_pred (B : Nat) (w : World) (n : Int) (p : Nat) (hp : p < B) (cp : w.cell? ⟨p, 0, none⟩ = some (.int .i64 n)) (hB : B ≤ w.heap.size) :
    PredF B w 46 #[.pointer (some ⟨p, 0, none⟩)] (aboveB n) := by
  refine ⟨fun _ _ => by kernel_rfl, fun f wr hb => ?_⟩
  have c1 := (hb.cell (p := ⟨p, 0, none⟩) hp).trans cp
  have hz := hb.size
  have hp' : p < wr.heap.size := by omega
  unfold File.agg aboveB
  show Calls Try.prog 46 #[.agg #[.int .i64 f.num, .int .i64 f.level, .string f.first, .string f.last, .int .i64 f.count, .int .i64 f.size], .pointer (some ⟨p, 0, none⟩)] wr _
  go_enter Try.func46, Try.ntmps46
  go_wp2
  go_ret
  exact ⟨rfl, (Below.refl _ _).alloc (Nat.le_refl _) _⟩
theorem bottom_any (B : Nat) (A : Option Addr) (len cap : Nat) (fs : List File) (lg nx sq n : Int) (key : ByteArray) (w : World) (hlen : len * 64 ≤ 140737488351232) (hr : Reads w B 6 A len (cellsOf fs)) (hB : B ≤ w.heap.size) :
    Calls Try.prog 25 #[.agg #[.int .i64 lg, .int .i64 nx, .int .i64 sq, .slice A len cap], .int .i64 n, .string key] w fun e w' =>
      e = .returned (.bool (!(fs.filter (holdB key)).any (aboveB n))) ∧ Below w.heap.size w w' := by
  have Hr := Lib.hid hr
  have Hlf := Lib.hid (length_of_cells hr)
  have hfl := List.length_filter_le (holdB key) fs
  rw [Hlf.out] at hfl
  clear hr
  go_enter Try.func25, Try.ntmps25
  go_wp2_with fail
  refine (holding_any (w.heap.size + 2) A len cap fs lg nx sq key _ hlen ((((Hr.out.alloc hB _).alloc (by simp; omega) _).more (by omega))) (by simp)).mono ?_
  rintro e w1 ⟨v, rfl, hown, hb1⟩
  obtain ⟨A1, c1, rfl, hr1⟩ := reads_own hown
  have cp : w1.cell? ⟨w.heap.size + 1, 0, none⟩ = some (.int .i64 n) := (hb1.cell (p := ⟨w.heap.size + 1, 0, none⟩) (by simp)).trans (by go_simp)
  have hz : w.heap.size + 2 ≤ w1.heap.size := by have := hb1.size; simp at this; omega
  have hp := Lib.hid (above_pred (w.heap.size + 2) w1 n (w.heap.size + 1) (by omega) cp hz)
  have hbw := Lib.hid ((((Below.refl w.heap.size w).alloc (Nat.le_refl _) (.cells #[.int .i64 lg, .int .i64 nx, .int .i64 sq, .slice A len cap] 34)).alloc (by simp) (.cells #[.int .i64 n] 3)).trans (hb1.mono (by simp; omega)))
  clear hown hb1 cp
  go_wp2_with fail
  refine (containsFunc_any _ _ (aboveB n) _ _ _ _ _ _ (by omega) hr1 (Nat.le_refl _) _ hz hp.out).mono ?_
  rintro e w2 ⟨rfl, hb2⟩
  go_wp2_with fail
  go_ret
  exact ⟨by simp [List.any_filter], hbw.out.trans (hb2.mono (by omega))⟩
end Go.Proofs.Ytpbkbkgankplbaa
