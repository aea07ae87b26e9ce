/-
  level: spans, numbers, what lies within, what holds a key. Condition: the slices lie within reach.
-/
import Derived.Test.YthcimkhnijnmgaaLvMin
import Derived.Lib.MinMaxS
namespace Go.Proofs.Ythcimkhnijnmgaa.Lv
open Go.RowKit

def loOf (f0 : File) (l : List File) : ByteArray := l.foldl (fun a f => Lib.minS a f.first) f0.first
def hiOf (f0 : File) (l : List File) : ByteArray := l.foldl (fun a f => Lib.maxS a f.last) f0.last
theorem loOf_snoc (f0 : File) (l : List File) (x : File) : loOf f0 (l ++ [x]) = Lib.minS (loOf f0 l) x.first := by unfold loOf; rw [List.foldl_append]; rfl
theorem hiOf_snoc (f0 : File) (l : List File) (x : File) : hiOf f0 (l ++ [x]) = Lib.maxS (hiOf f0 l) x.last := by unfold hiOf; rw [List.foldl_append]; rfl
theorem str_eq {a b : ByteArray} (h : a = b) : Value.string a = .string b := by rw [h]

set_option maxHeartbeats 400000 in
set_option maxRecDepth 100000 in
theorem span_any (B : Nat) (A : Option Addr) (len cap : Nat) (f0 : File) (r : List File) (w : World) (hlen : len * 64 ≤ 140737488351232) (hr : Reads w B 6 A len (cellsOf (f0 :: r))) (hB : B ≤ w.heap.size) :
    Calls Try.prog 9 #[.slice A len cap] w fun e w' => e = .returned (.tuple #[.string (loOf f0 (f0 :: r)), .string (hiOf f0 (f0 :: r))]) ∧ Below w.heap.size w w' := by
  have hlf := length_of_cells hr
  simp only [List.length_cons] at hlf
  obtain ⟨ad, f, rfl, hbl, hf, c0, c1, c2, c3, c4, c5⟩ := hr.file (Below.refl B w) (Nat.le_refl _) (show 0 < len by omega)
  simp only [List.getElem?_cons_zero, Option.some.injEq] at hf
  subst hf
  simp only [Nat.zero_mul, Addr.add, if_true] at c0 c1 c2 c3 c4 c5
  have hbs : ad.block < w.heap.size := by omega
  have hmin := fun (w : World) ts t x y => Lib.run_min_strs (P := Try.prog) w ts t x y
  have hmax := fun (w : World) ts t x y => Lib.run_max_strs (P := Try.prog) w ts t x y
  have hl0 : ((len : Int) == 0) = false := by simp; omega
  have hl1 : (0 : Int) < (len : Int) := by omega
  go_enter Try.func9, Try.ntmps9
  go_wp2_with fail
  go_quiet (fail)
  go_wp2_with fail
  clear c0 c1 c2 c3 c4 c5
  go_loopw [4, 5, 21] (fun u v i wr => ∃ k : Nat, k ≤ len ∧ i = .int .i64 k ∧ u = .string (loOf f0 ((f0 :: r).take k)) ∧ v = .string (hiOf f0 ((f0 :: r).take k)) ∧ Below w.heap.size w wr)
    (fun _ _ i _ => len - (intOf i).toNat)
  case atStart => exact ⟨0, by omega, rfl, rfl, rfl, (Below.refl _ _).drewN _⟩
  case round =>
    obtain ⟨k, hk, rfl, rfl, rfl, hb⟩ := hrel
    by_cases hlt : k < len
    · obtain ⟨ad', f, had, -, hf, c0, c1, c2, c3, c4, c5⟩ := hr.file hb hB hlt
      injection had with had
      subst had
      have hs1 : (f0 :: r).take (k + 1) = (f0 :: r).take k ++ [f] := by rw [List.take_add_one, hf]; rfl
      have Hs := Lib.hid hs1
      have hz := hb.size
      clear hf hlf hs1
      go_wp2_with fail
      go_quiet (fail)
      go_wp2_with fail
      go_roundw
      case rel => exact ⟨k + 1, by omega, by go_num, by rw [Hs.out, loOf_snoc], by rw [Hs.out, hiOf_snoc], (hb.alloc hz _).drewN _⟩
      case measure => simp [intOf]; omega
    · have Hs := Lib.hid (show (f0 :: r).take k = f0 :: r from List.take_of_length_le (by simp; omega))
      clear hlf
      go_wp2_with fail
      go_ret2
      rw [Hs.out]
      exact ⟨rfl, hb⟩

theorem info3 : (Try.prog.info? 3).map (fun i => (i.zero, i.size, i.bytes)) = some (some (.int .i64 0), 1, 8) := by kernel_rfl
def numsOf (fs : List File) : List Value := fs.map fun f => .int .i64 f.num
set_option maxHeartbeats 400000 in
set_option maxRecDepth 100000 in
theorem numbers_any (B : Nat) (A : Option Addr) (len cap : Nat) (fs : List File) (w : World) (hlen : len * 64 ≤ 140737488351232) (hr : Reads w B 6 A len (cellsOf fs)) (hB : B ≤ w.heap.size) :
    Calls Try.prog 17 #[.slice A len cap] w fun e w' => ∃ v, e = .returned v ∧ w'.ownsRow w.heap.size 3 1 v len (numsOf fs) ∧ Below w.heap.size w w' := by
  obtain ⟨i0, hi0, hz0, hz1, hz2⟩ := info_parts info3
  have hlf := length_of_cells hr
  go_enter Try.func17, Try.ntmps17
  go_wp2_with fail
  go_loopw [3, 8] (fun v i wr => ∃ k : Nat, k ≤ len ∧ i = .int .i64 k ∧ wr.ownsRow w.heap.size 3 1 v (fs.take k).length (numsOf (fs.take k)) ∧ Below w.heap.size w wr)
    (fun _ i _ => len - (intOf i).toNat)
  case atStart => exact ⟨0, Nat.zero_le _, rfl, World.ownsRow_nil _ _ _ _, Below.refl _ _⟩
  case round =>
    obtain ⟨k, hk, rfl, hown, hb⟩ := hrel
    by_cases hlt : k < len
    · obtain ⟨ad, f, rfl, hbl, hf, c0, c1, c2, c3, c4, c5⟩ := hr.file hb hB hlt
      have hm : (fs.take k).length ≤ k := List.length_take_le _ _
      have hz := hb.size
      have e1 := Lib.hid (show fs.take (k + 1) = fs.take k ++ [f] by rw [List.take_add_one, hf]; rfl)
      clear hf hlf
      go_wp2_with (at_builtin; refine wpList_append_one rfl (.tmp 12) (.tmp 15) _ rfl w.heap.size _ i0 _ 1 8 Try.underlying31 hi0 hz0 hz1 hz2 rfl (by decide) (wr.alloc _) #[.int .i64 f.num] _ _ _ rfl (hown.alloc _) _ (by simp) rfl rfl (by simp [Value.oneCell']) (by simp only [maxLen]; omega) (by simp; omega) ?_; intro v' w' hown' hb' hz')
      go_roundw
      case rel => exact ⟨k + 1, by omega, by go_num, by rw [e1.out, List.length_append, numsOf, List.map_append]; exact hown', hb' _ _ (Nat.le_refl _) (hb.alloc hz _)⟩
      case measure => simp [intOf]; omega
    · have e1 := Lib.hid (show (fs.take k) = fs from List.take_of_length_le (by omega))
      have Hl := Lib.hid hlf
      clear hlf
      go_wp2_with fail
      go_ret
      rw [e1.out, Hl.out] at hown
      exact ⟨_, rfl, hown, hb⟩

/-- Has a file no key from one to another? -/
def outB (lo hi : ByteArray) (f : File) : Bool := Op.bytesLess hi.toList lo.toList || Op.bytesLess f.last.toList lo.toList || Op.bytesLess hi.toList f.first.toList
set_option maxHeartbeats 400000 in
theorem out_pred (B : Nat) (w : World) (lo hi : ByteArray) (p q : Nat) (hp : p < B) (hq : q < B) (cp : w.cell? ⟨p, 0, none⟩ = some (.string hi)) (cq : w.cell? ⟨q, 0, none⟩ = some (.string lo)) (hB : B ≤ w.heap.size) :
    PredF B w 33 #[.pointer (some ⟨p, 0, none⟩), .pointer (some ⟨q, 0, none⟩)] (outB lo hi) := by
  refine ⟨fun _ _ => by kernel_rfl, fun f wr hb => ?_⟩
  have c1 := (hb.cell (p := ⟨p, 0, none⟩) hp).trans cp
  have c2 := (hb.cell (p := ⟨q, 0, none⟩) hq).trans cq
  have hz := hb.size
  have hp' : p < wr.heap.size := by omega
  have hq' : q < wr.heap.size := by omega
  unfold File.agg outB
  show Calls Try.prog 33 #[.agg #[.int .i64 f.num, .int .i64 f.level, .string f.first, .string f.last, .int .i64 f.count, .int .i64 f.size], .pointer (some ⟨p, 0, none⟩), .pointer (some ⟨q, 0, none⟩)] wr _
  cases h1 : Op.bytesLess hi.toList lo.toList <;> cases h2 : Op.bytesLess f.last.toList lo.toList <;> cases h3 : Op.bytesLess hi.toList f.first.toList
  all_goals
    go_enter Try.func33, Try.ntmps33
    go_wp2
    go_ret
    exact ⟨rfl, (Below.refl _ _).alloc (Nat.le_refl _) _⟩

def withinS (fs : List File) (n : Int) (lo hi : ByteArray) : List File := (fs.filter (·.level == n)).filter (fun f => !outB lo hi f)
set_option maxHeartbeats 400000 in
theorem within_any (B : Nat) (A : Option Addr) (len cap : Nat) (fs : List File) (lg nx sq n : Int) (lo hi : ByteArray) (w : World) (hlen : len * 64 ≤ 140737488351232) (hr : Reads w B 6 A len (cellsOf fs)) (hB : B ≤ w.heap.size) :
    Calls Try.prog 16 #[.agg #[.int .i64 lg, .int .i64 nx, .int .i64 sq, .slice A len cap], .int .i64 n, .string lo, .string hi] w fun e w' =>
      ∃ v, e = .returned v ∧ w'.ownsRow w.heap.size 37 6 v (withinS fs n lo hi).length (cellsOf (withinS fs n lo hi)) ∧ Below w.heap.size w w' := by
  have Hr := Lib.hid hr
  have hlf := length_of_cells hr
  clear hr
  go_enter Try.func16, Try.ntmps16
  go_wp2_with fail
  refine (level_any A len cap fs lg nx sq n _ hlen (((((Hr.out.alloc hB _).alloc (by simp; omega) _).alloc (by simp; omega) _).more (by simp; omega)))).mono ?_
  rintro e w1 ⟨v, rfl, hown, hb1⟩
  have hb0 : Below (w.heap.size + 3) ((((w.alloc (.cells #[.int .i64 lg, .int .i64 nx, .int .i64 sq, .slice A len cap] 29)).alloc (.cells #[.string lo] 9)).alloc (.cells #[.string hi] 9))) w1 := hb1.mono (by simp)
  have hz1 := hb0.size
  have hbw : Below w.heap.size w w1 := ((((Below.refl _ _).alloc (Nat.le_refl _) _).alloc (by simp) _).alloc (by simp; omega) _).trans (hb0.mono (by omega))
  have clo : w1.cell? ⟨w.heap.size + 1, 0, none⟩ = some (.string lo) := (hb0.cell (p := ⟨w.heap.size + 1, 0, none⟩) (by simp)).trans (by go_simp)
  have chi : w1.cell? ⟨w.heap.size + 2, 0, none⟩ = some (.string hi) := (hb0.cell (p := ⟨w.heap.size + 2, 0, none⟩) (by simp)).trans (by go_simp)
  simp only [World.size_alloc] at hz1
  have hp := Lib.hid (out_pred (w.heap.size + 3) w1 lo hi (w.heap.size + 2) (w.heap.size + 1) (by omega) (by omega) chi clo (by omega))
  have Ho := Lib.hid (own_base hown (show w.heap.size + 3 ≤ _ by simp))
  have hle := List.length_filter_le (fun f : File => f.level == n) fs
  clear hown hb0 hb1 clo chi
  go_wp2_with fail
  refine (deleteFunc_any _ _ (outB lo hi) (w.heap.size + 3) v _ _ (by omega) Ho.out (by omega) _ (Nat.le_refl _) hp.out).mono ?_
  rintro e w2 ⟨v2, rfl, hown2, hb2⟩
  go_wp2_with fail
  go_ret
  exact ⟨_, rfl, own_base hown2 (by omega), hbw.trans (hb2.mono (by omega))⟩
end Go.Proofs.Ythcimkhnijnmgaa.Lv
