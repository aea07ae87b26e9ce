/-
  The statements' helpers of layer 15: told, within, same, SameFiles; level.Holding, Bottom. Condition: the slices lie within reach.
-/
import Derived.Test.YtpbkbkgankplbaaLawB
namespace Go.Proofs.Ytpbkbkgankplbaa
open Go.RowKit

set_option maxHeartbeats 800000 in
set_option maxRecDepth 100000 in
theorem told_any (B : Nat) (A : Option Addr) (len cap : Nat) (fs : List File) (w : World) (hlen : len * 64 ≤ 140737488351232) (hr : Reads w B 6 A len (cellsOf fs)) (hB : B ≤ w.heap.size) :
    Calls Try.prog 21 #[.slice A len cap] w fun e w' => ∃ v, e = .returned v ∧ w'.ownsRow w.heap.size 47 6 v len (cellsOf fs) ∧ Below w.heap.size w w' := by
  obtain ⟨i0, hi0, hz0, hz1, hz2⟩ := info_parts infoRF
  have Hlf := Lib.hid (length_of_cells hr)
  go_enter Try.func21, Try.ntmps21
  go_wp2_with fail
  go_loopw [3, 4] (fun v i wr => ∃ k : Nat, k ≤ len ∧ i = .int .i64 k ∧ wr.ownsRow w.heap.size 47 6 v k (cellsOf (fs.take k)) ∧ Below w.heap.size w wr)
    (fun _ i _ => len - (intOf i).toNat)
  case atStart => exact ⟨0, Nat.zero_le _, rfl, World.ownsRow_nil _ _ _ _, Below.refl _ _⟩
  case round =>
    obtain ⟨k, hk, rfl, hown, hb⟩ := hrel
    by_cases hlt : k < len
    · obtain ⟨ad, f, rfl, hbl, hf, c0, c1, c2, c3, c4, c5⟩ := hr.file hb hB hlt
      have hz := hb.size
      have e1 := Lib.hid (show fs.take (k + 1) = fs.take k ++ [f] by rw [List.take_add_one, hf]; rfl)
      clear hf
      go_wp2_with (at_builtin; refine wpList_append_one rfl (.tmp 11) (.tmp 16) _ rfl w.heap.size _ i0 _ 6 64 Try.underlying22 hi0 hz0 hz1 hz2 rfl (by decide) wr #[.int .i64 f.num, .int .i64 f.level, .string f.first, .string f.last, .int .i64 f.count, .int .i64 f.size] _ _ _ rfl hown _ rfl rfl rfl (by simp [Value.oneCell']) (by simp only [maxLen]; omega) (by omega) ?_; intro v' w' hown' hb' hz')
      go_roundw
      case rel => exact ⟨k + 1, by omega, by go_num, by rw [e1.out, cellsOf_snoc]; exact hown', hb' _ _ (Nat.le_refl _) hb⟩
      case measure => simp [intOf]; omega
    · obtain rfl : k = len := by omega
      have e1 := Lib.hid (show (fs.take k) = fs from List.take_of_length_le (by rw [Hlf.out]; omega))
      go_wp2_with fail
      go_ret
      rw [e1.out] at hown
      exact ⟨_, rfl, hown, hb⟩

set_option maxHeartbeats 800000 in
set_option maxRecDepth 100000 in
theorem sameFiles_eq (B : Nat) (A A' : Option Addr) (len cap cap' : Nat) (fs : List File) (w : World) (hlen : len * 64 ≤ 140737488351232) (hr : Reads w B 6 A len (cellsOf fs)) (hr' : Reads w B 6 A' len (cellsOf fs)) (hB : B ≤ w.heap.size) :
    Calls Try.prog 20 #[.slice A len cap, .slice A' len cap'] w fun e w' => e = .returned (.bool true) ∧ Below w.heap.size w w' := by
  go_enter Try.func20, Try.ntmps20
  go_wp2_with fail
  go_loopw [5] (fun i wr => ∃ k : Nat, k ≤ len ∧ i = .int .i64 k ∧ Below w.heap.size w wr) (fun i _ => len - (intOf i).toNat)
  case atStart => exact ⟨0, Nat.zero_le _, rfl, Below.refl _ _⟩
  case round =>
    obtain ⟨k, hk, rfl, hb⟩ := hrel
    by_cases hlt : k < len
    · obtain ⟨ad, f, rfl, hbl, hf, c0, c1, c2, c3, c4, c5⟩ := hr.file hb hB hlt
      obtain ⟨ad', f', rfl, hbl', hf', d0, d1, d2, d3, d4, d5⟩ := hr'.file hb hB hlt
      obtain rfl : f = f' := by rw [hf] at hf'; injection hf'
      clear hf hf'
      go_wp2_with fail
      go_quiet (fail)
      go_wp2_with fail
      go_roundw
      case rel => exact ⟨k + 1, by omega, by go_num, hb.drewN _⟩
      case measure => simp [intOf]; omega
    · go_wp2_with fail
      go_ret
      exact ⟨rfl, hb⟩

set_option maxHeartbeats 800000 in
theorem same_eq (B : Nat) (A A' : Option Addr) (len cap cap' : Nat) (fs : List File) (w : World) (hlen : len * 64 ≤ 140737488351232) (hr : Reads w B 1 A len (numsOf fs)) (hr' : Reads w B 6 A' len (cellsOf fs)) (hB : B ≤ w.heap.size) :
    Calls Try.prog 34 #[.slice A len cap, .slice A' len cap'] w fun e w' => e = .returned (.bool true) ∧ Below w.heap.size w w' := by
  go_enter Try.func34, Try.ntmps34
  go_wp2_with fail
  go_loopw [5] (fun i wr => ∃ k : Nat, k ≤ len ∧ i = .int .i64 k ∧ Below w.heap.size w wr) (fun i _ => len - (intOf i).toNat)
  case atStart => exact ⟨0, Nat.zero_le _, rfl, Below.refl _ _⟩
  case round =>
    obtain ⟨k, hk, rfl, hb⟩ := hrel
    by_cases hlt : k < len
    · obtain ⟨ad', f, rfl, hbl', hf, d0, d1, d2, d3, d4, d5⟩ := hr'.file hb hB hlt
      obtain ⟨ad, rfl, hbl, hcc⟩ := hr.2 (by omega)
      have c0 : wr.cell? (ad.add k) = some (.int .i64 f.num) := (hb.cell (by rw [block_of_add]; omega)).trans (hcc k _ (by unfold numsOf; rw [List.getElem?_map, hf]; rfl))
      clear hf hcc
      go_wp2_with fail
      go_quiet (fail)
      go_wp2_with fail
      go_roundw
      case rel => exact ⟨k + 1, by omega, by go_num, hb.drewN _⟩
      case measure => simp [intOf]; omega
    · go_wp2_with fail
      go_ret
      exact ⟨rfl, hb⟩

def leB (a b : ByteArray) : Bool := Op.bytesLess a.toList b.toList || a.toList == b.toList
def inL (n : Int) (lo hi : ByteArray) (f : File) : Bool := f.level == n && leB lo hi && !Op.bytesLess f.last.toList lo.toList && !Op.bytesLess hi.toList f.first.toList
set_option maxHeartbeats 1600000 in
set_option maxRecDepth 100000 in
theorem withinL_any (B : Nat) (A : Option Addr) (len cap : Nat) (fs : List File) (lg nx sq n : Int) (lo hi : ByteArray) (w : World) (hlen : len * 64 ≤ 140737488351232) (hr : Reads w B 6 A len (cellsOf fs)) (hB : B ≤ w.heap.size) :
    Calls Try.prog 23 #[.agg #[.int .i64 lg, .int .i64 nx, .int .i64 sq, .slice A len cap], .int .i64 n, .string lo, .string hi] w fun e w' =>
      ∃ v, e = .returned v ∧ w'.ownsRow w.heap.size 47 6 v (fs.filter (inL n lo hi)).length (cellsOf (fs.filter (inL n lo hi))) ∧ Below w.heap.size w w' := by
  obtain ⟨i0, hi0, hz0, hz1, hz2⟩ := info_parts infoRF
  have Hlf := Lib.hid (length_of_cells hr)
  obtain ⟨b2, hb2⟩ : ∃ b, leB lo hi = b := ⟨_, rfl⟩
  have hb2' : (Op.bytesLess lo.toList hi.toList || lo.toList == hi.toList) = b2 := hb2
  have Hb2 := Lib.hid hb2
  clear hb2
  go_enter Try.func23, Try.ntmps23
  go_wp2_with fail
  go_loopw [9, 10] (fun v i wr => ∃ k : Nat, k ≤ len ∧ i = .int .i64 k ∧ wr.ownsRow (w.heap.size + 1) 47 6 v ((fs.take k).filter (inL n lo hi)).length (cellsOf ((fs.take k).filter (inL n lo hi))) ∧
      wr.heap[w.heap.size]? = some (.cells #[.int .i64 lg, .int .i64 nx, .int .i64 sq, .slice A len cap] 24 (0, 0)) ∧ Below w.heap.size w wr)
    (fun _ i _ => len - (intOf i).toNat)
  case atStart => exact ⟨0, Nat.zero_le _, rfl, World.ownsRow_nil _ _ _ _, heap_alloc_new w _, (Below.refl _ _).alloc (Nat.le_refl _) _⟩
  case round =>
    obtain ⟨k, hk, rfl, hown, hg, hb⟩ := hrel
    obtain ⟨x0, x1, x2, x3⟩ := row4 hg
    have hgl : w.heap.size < wr.heap.size := (Array.getElem?_eq_some_iff.1 hg).1
    have Hg := Lib.hid hg
    clear hg x0 x1 x2
    by_cases hlt : k < len
    · obtain ⟨ad, f, rfl, hbl, hf, c0, c1, c2, c3, c4, c5⟩ := hr.file hb hB hlt
      have hm : ((fs.take k).filter (inL n lo hi)).length ≤ k := Nat.le_trans (List.length_filter_le _ _) (List.length_take_le _ _)
      have hgW := Lib.hid ((Below.heap_alloc wr (.cells #[.int .i64 f.num, .int .i64 f.level, .string f.first, .string f.last, .int .i64 f.count, .int .i64 f.size] 47) _ hgl).trans Hg.out)
      have hbW := hb.alloc (show w.heap.size ≤ wr.heap.size by omega) (.cells #[.int .i64 f.num, .int .i64 f.level, .string f.first, .string f.last, .int .i64 f.count, .int .i64 f.size] 47)
      have hbX := (Below.refl (w.heap.size + 1) wr).alloc (show w.heap.size + 1 ≤ wr.heap.size by omega) (.cells #[.int .i64 f.num, .int .i64 f.level, .string f.first, .string f.last, .int .i64 f.count, .int .i64 f.size] 47)
      cases hin : inL n lo hi f
      · have e1 := Lib.hid (filter_miss (inL n lo hi) fs k f hf hin)
        have Hin := Lib.hid hin
        clear hf hin
        have hany := Hin.out
        unfold inL at hany
        rw [Hb2.out] at hany
        cases h1 : (f.level == n)
        case false =>
          clear hany
          go_wp2_with fail
          go_roundw
          case rel => exact ⟨k + 1, by omega, by go_num, by rw [e1.out]; exact hown.alloc _, hgW.out, hbW⟩
          case measure => simp [intOf]; omega
        case true =>
          cases b2
          case false =>
            clear hany
            go_wp2_with fail
            go_roundw
            case rel => exact ⟨k + 1, by omega, by go_num, by rw [e1.out]; exact hown.alloc _, hgW.out, hbW⟩
            case measure => simp [intOf]; omega
          case true =>
            cases h3 : Op.bytesLess f.last.toList lo.toList
            case true =>
              clear hany
              go_wp2_with fail
              go_roundw
              case rel => exact ⟨k + 1, by omega, by go_num, by rw [e1.out]; exact hown.alloc _, hgW.out, hbW⟩
              case measure => simp [intOf]; omega
            case false =>
              have h4 : Op.bytesLess hi.toList f.first.toList = true := by rw [h1, h3] at hany; simpa using hany
              clear hany
              go_wp2_with fail
              go_roundw
              case rel => exact ⟨k + 1, by omega, by go_num, by rw [e1.out]; exact hown.alloc _, hgW.out, hbW⟩
              case measure => simp [intOf]; omega
      · have e1 := Lib.hid (filter_hit (inL n lo hi) fs k f hf hin)
        have hany := hin
        unfold inL at hany
        rw [Hb2.out] at hany
        simp only [Bool.and_eq_true, Bool.not_eq_true'] at hany
        obtain ⟨⟨⟨h1, h2⟩, h3⟩, h4⟩ := hany
        subst h2
        clear hf hin
        go_wp2_with (at_builtin; refine wpList_append_one rfl (.tmp 47) (.tmp 49) _ rfl (w.heap.size + 1) _ i0 _ 6 64 Try.underlying22 hi0 hz0 hz1 hz2 rfl (by decide) (wr.alloc _) #[.int .i64 f.num, .int .i64 f.level, .string f.first, .string f.last, .int .i64 f.count, .int .i64 f.size] _ _ _ rfl (hown.alloc _) _ (by simp) rfl rfl (by simp [Value.oneCell']) (by simp only [maxLen]; omega) (by simp; omega) ?_; intro v' w' hown' hb' hz')
        go_roundw
        case rel => exact ⟨k + 1, by omega, by go_num, by rw [e1.out, List.length_append, cellsOf_snoc]; exact hown', ((hb' (w.heap.size + 1) wr (Nat.le_refl _) hbX).block _ (by omega)).trans Hg.out, hb' _ _ (by omega) hbW⟩
        case measure => simp [intOf]; omega
    · obtain rfl : k = len := by omega
      have e1 := Lib.hid (show (fs.take k) = fs from List.take_of_length_le (by rw [Hlf.out]; omega))
      go_wp2_with fail
      go_ret
      rw [e1.out] at hown
      exact ⟨_, rfl, own_base hown (by omega), hb⟩
end Go.Proofs.Ytpbkbkgankplbaa
