/-
  What the library answers at a segment's file name. Condition: the numbers are within six digits.
-/
import Derived.Test.YtnlepoplncjliaaGreatDoorWbA
namespace Go.Proofs.YtnlepoplncjliaaGreatDoor
open Go.RowKit Go.Maps Go.Sort

theorem dig6_lt (n : Nat) : ∀ c ∈ dig6 n, 48 ≤ c ∧ c < 58 := by
  intro c hc
  unfold dig6 at hc
  rcases List.mem_append.1 hc with hc | hc
  · have := List.eq_of_mem_replicate hc; omega
  · exact decN_lt n c hc
theorem dig6_len {n : Nat} (h : n ≤ 999999) : (dig6 n).length = 6 := by
  have := decN_len 5 n (by omega)
  unfold dig6
  rw [List.length_append, List.length_replicate]
  omega
theorem decFrom_app : ∀ (a b : List UInt8) (acc : Nat), Lib.decFrom acc (a ++ b) = (Lib.decFrom acc a).bind fun m => Lib.decFrom m b
  | [], b, acc => rfl
  | x :: a, b, acc => by
    rw [List.cons_append, Lib.decFrom, Lib.decFrom]
    cases Lib.digitVal x with
    | none => rfl
    | some d => exact decFrom_app a b _
theorem digitVal_ok {d : Nat} (h : d < 10) : Lib.digitVal (UInt8.ofNat (48 + d)) = some d := by
  have e : (UInt8.ofNat (48 + d)).toNat = 48 + d := ofNat_toNat (by omega)
  unfold Lib.digitVal
  rw [e, if_pos (by omega)]
  congr 1
  omega
theorem decFrom_dec : ∀ n, Lib.decFrom 0 (u8s (decN n)) = some n := by
  intro n
  induction n using Nat.strongRecOn with
  | ind n ih =>
    rw [decN]
    split
    · rename_i h
      show Lib.decFrom 0 [UInt8.ofNat (48 + n)] = _
      rw [Lib.decFrom, digitVal_ok h]
      simp [Lib.decFrom]
    · rename_i h
      have e : u8s (decN (n / 10) ++ [48 + n % 10]) = u8s (decN (n / 10)) ++ [UInt8.ofNat (48 + n % 10)] := by simp [u8s]
      rw [e, decFrom_app, ih (n / 10) (by omega)]
      simp only [Option.bind_some]
      rw [Lib.decFrom, digitVal_ok (by omega)]
      simp only [Lib.decFrom, Option.some.injEq]
      omega
theorem decFrom_zeros : ∀ (k : Nat) (l : List UInt8), Lib.decFrom 0 (u8s (List.replicate k 48) ++ l) = Lib.decFrom 0 l
  | 0, l => rfl
  | k + 1, l => by
    have e : u8s (List.replicate (k + 1) 48) ++ l = UInt8.ofNat (48 + 0) :: (u8s (List.replicate k 48) ++ l) := by rw [List.replicate_succ]; rfl
    rw [e, Lib.decFrom, digitVal_ok (by omega)]
    exact decFrom_zeros k l
theorem atoi_dig6 {n : Nat} (h : n ≤ 999999) : Lib.atoi (u8s (dig6 n)) = some (n : Int) := by
  have hl := dig6_len h
  have hd := dig6_lt n
  have hdec : Lib.decNat (u8s (dig6 n)) = some n := by
    unfold Lib.decNat
    have hne : (u8s (dig6 n)).isEmpty = false := by
      cases e : dig6 n with
      | nil => rw [e] at hl; cases hl
      | cons x r => rfl
    rw [hne]
    simp only [Bool.false_eq_true, if_false]
    unfold dig6
    have e : u8s (List.replicate (6 - (decN n).length) 48 ++ decN n) = u8s (List.replicate (6 - (decN n).length) 48) ++ u8s (decN n) := by simp [u8s]
    rw [e, decFrom_zeros, decFrom_dec]
  cases e : dig6 n with
  | nil => rw [e] at hl; cases hl
  | cons x r =>
    have hx := hd x (by rw [e]; exact List.mem_cons_self)
    rw [e] at hdec
    have e2 : u8s (x :: r) = UInt8.ofNat x :: u8s r := rfl
    rw [e2] at hdec ⊢
    have hx2 : (UInt8.ofNat x).toNat = x := ofNat_toNat (by omega)
    have n1 : (UInt8.ofNat x == 45) = false := by
      rw [beq_eq_false_iff_ne]
      intro h3
      rw [h3] at hx2
      have : (45 : UInt8).toNat = 45 := rfl
      omega
    have n2 : (UInt8.ofNat x == 43) = false := by
      rw [beq_eq_false_iff_ne]
      intro h3
      rw [h3] at hx2
      have : (43 : UInt8).toNat = 43 := rfl
      omega
    show (if (UInt8.ofNat x == 45) = true then (Lib.decNat (u8s r)).map (fun (m : Nat) => -(m : Int)) else if (UInt8.ofNat x == 43) = true then (Lib.decNat (u8s r)).map (fun (m : Nat) => (m : Int)) else (Lib.decNat (UInt8.ofNat x :: u8s r)).map (fun (m : Nat) => (m : Int))) = _
    rw [n1, n2, hdec]
    rfl
theorem strOf_u8 (s : List Nat) : (strOf s).data.toList = u8s s := strOf_data s
theorem below_bytesW (w : World) (e : TypeId) (s : ByteArray) : Below w.heap.size w (Lib.bytesWorld w e s) := ⟨rfl, rfl, rfl, by rw [Lib.bytesWorld_size]; omega, fun j hj => Lib.bytesWorld_at_old w e s j hj⟩
theorem atoi_any (n : Nat) (w : World) (h : n ≤ 999999) : Calls Tryz.prog 56 #[.string (strOf (dig6 n))] w fun e w' => e = .returned (.tuple #[.int .i64 (n : Int), .nilIface]) ∧ Grow w w' := by
  refine (Any.strconv_Atoi shAtoi (strOf (dig6 n)) (n : Int) (by rw [strOf_size, dig6_len h]; omega) (by rw [strOf_u8]; exact atoi_dig6 h) w).mono ?_
  rintro e w' ⟨rfl, t, rfl⟩
  exact ⟨rfl, below_bytesW _ _ _⟩
theorem cutP_any (nm r : List Nat) (w : World) : Calls Tryz.prog 54 #[.string (strOf (nm ++ r)), .string (strOf nm)] w fun e w' => e = .returned (.tuple #[.string (strOf r), .bool true]) ∧ Grow w w' := by
  refine (Any.strings_CutPrefix shCutP (strOf (nm ++ r)) (strOf nm) w).mono ?_
  rintro e w' ⟨rfl, rfl⟩
  have e1 : u8s (nm ++ r) = u8s nm ++ u8s r := by simp [u8s]
  have h1 : Lib.hasPrefix (u8s nm ++ u8s r) (u8s nm) = true := by
    unfold Lib.hasPrefix
    rw [List.isPrefixOf_iff_prefix]
    exact List.prefix_append _ _
  rw [strOf_u8, strOf_u8, e1, h1]
  refine ⟨?_, Below.refl _ _⟩
  unfold Lib.trimPrefix
  rw [h1, if_pos rfl, List.drop_left]
  rfl
theorem cut_any (a b : List Nat) (w : World) (g : Gv w) (ha : ∀ c ∈ a, c < 46 ∨ 46 < c) (hb : Byt a) (hl : a.length + b.length ≤ 1000000) : Calls Tryz.prog 55 #[.string (strOf (a ++ 46 :: b)), .string { data := #[46] }] w fun e w' => e = .returned (.tuple #[.string (strOf a), .string (strOf b), .bool true]) ∧ Grow w w' := by
  obtain ⟨m, hm⟩ := g.mx
  refine (Any.strings_Cut shCut (strOf (a ++ 46 :: b)) { data := #[46] } m w (by rw [strOf_size]; simp only [List.length_append, List.length_cons]; omega) hm).mono ?_
  rintro e w' ⟨rfl, k, rfl⟩
  have e1 : u8s (a ++ 46 :: b) = u8s a ++ 46 :: u8s b := by simp [u8s]
  have hi : Lib.index (u8s a ++ 46 :: u8s b) [46] = ((u8s a).length : Int) := by
    refine Lib.index_first (by simp) ?_ ?_
    · unfold Lib.occAt
      rw [List.drop_left]
      rfl
    · intro j hj
      unfold Lib.occAt
      have hja : j < a.length := by simpa [u8s] using hj
      rw [List.drop_append_of_le_length (by omega)]
      have hc : (u8s a)[j]? = some (UInt8.ofNat a[j]) := by simp [u8s, hja]
      rw [drop_head hc, List.cons_append]
      have hne : (46 : UInt8) ≠ UInt8.ofNat a[j] := fun e => by
        have h1 := ha a[j] (List.getElem_mem hja)
        have h2 : (UInt8.ofNat a[j]).toNat = a[j] := ofNat_toNat (hb _ (List.getElem_mem hja))
        rw [← e] at h2
        have : (46 : UInt8).toNat = 46 := rfl
        omega
      simp [List.isPrefixOf, hne]
  have hcut : Lib.cut (u8s a ++ 46 :: u8s b) [46] = (u8s a, u8s b, true) := by
    unfold Lib.cut
    rw [hi, if_pos (by omega), Int.toNat_natCast, List.take_left]
    have : (u8s a ++ 46 :: u8s b).drop ((u8s a).length + [(46 : UInt8)].length) = u8s b := by
      rw [← List.drop_drop, List.drop_left]
      rfl
    rw [this]
  have e2 : (({ data := #[46] } : ByteArray)).data.toList = [46] := rfl
  rw [strOf_u8, e1, e2, hcut]
  exact ⟨rfl, ⟨rfl, rfl, rfl, Nat.le_refl _, fun _ _ => rfl⟩⟩
end Go.Proofs.YtnlepoplncjliaaGreatDoor
