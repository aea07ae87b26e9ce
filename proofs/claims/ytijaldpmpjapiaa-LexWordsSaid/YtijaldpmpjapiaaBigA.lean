/-
  debentureref01's digits: a number's digits to the base 65536; what trim answers. No condition but that the slice lies within reach.
-/
import Derived.Test.YtijaldpmpjapiaaRows
import Derived.Test.YtijaldpmpjapiaaWords
import Derived.Handy
import Derived.Deep.Light
import Derived.StillTailTactics
namespace Go.Proofs.Ytijaldpmpjapiaa
open Go.RowKit

/-- The number of some digits, the lowest first. -/
def val : List Nat → Nat
  | [] => 0
  | d :: l => d + 65536 * val l
/-- A number's digits, the lowest first, none above it nought. -/
def digs (n : Nat) : List Nat := if n = 0 then [] else n % 65536 :: digs (n / 65536)
termination_by n
decreasing_by omega
theorem digs_zero : digs 0 = [] := by rw [digs]; simp
theorem digs_pos (n : Nat) (h : n ≠ 0) : digs n = n % 65536 :: digs (n / 65536) := by rw [digs, if_neg h]
theorem val_digs (n : Nat) : val (digs n) = n := by
  induction n using Nat.strongRecOn with
  | _ n ih =>
    by_cases h : n = 0
    · subst h; rw [digs_zero]; rfl
    · rw [digs_pos n h, val, ih _ (by omega)]; omega
theorem digs_lt (n : Nat) : ∀ d ∈ digs n, d < 65536 := by
  induction n using Nat.strongRecOn with
  | _ n ih =>
    by_cases h : n = 0
    · subst h; rw [digs_zero]; simp
    · rw [digs_pos n h]
      intro d hd
      rcases List.mem_cons.1 hd with rfl | hd
      · omega
      · exact ih _ (by omega) d hd
theorem digs_ne_nil (n : Nat) (h : n ≠ 0) : digs n ≠ [] := by rw [digs_pos n h]; simp
theorem digs_len_zero (n : Nat) : (digs n).length = 0 ↔ n = 0 := by
  by_cases h : n = 0
  · subst h; simp [digs_zero]
  · rw [digs_pos n h]; simp [h]
theorem digs_val (l : List Nat) (h : ∀ d ∈ l, d < 65536) (hl : ∀ k, l.length = k + 1 → l[k]? ≠ some 0) : digs (val l) = l := by
  induction l with
  | nil => exact digs_zero
  | cons d l ih =>
    have hd := h d (by simp)
    have ih := ih (fun x hx => h x (by simp [hx])) (fun k hk => by have := hl (k + 1) (by simp [hk]); simpa using this)
    have hne : val (d :: l) ≠ 0 := by
      rw [val]
      intro h0
      have hv : val l = 0 := by omega
      rw [hv, digs_zero] at ih
      subst ih
      have hd0 : d = 0 := by omega
      exact hl 0 rfl (by simp [hd0])
    rw [digs_pos _ hne, val]
    have e1 : (d + 65536 * val l) % 65536 = d := by omega
    have e2 : (d + 65536 * val l) / 65536 = val l := by omega
    rw [e1, e2, ih]
theorem val_append (a b : List Nat) : val (a ++ b) = val a + 65536 ^ a.length * val b := by
  induction a with
  | nil => simp [val]
  | cons d a ih => 
    rw [List.cons_append, val, val, ih, List.length_cons, Nat.pow_succ, Nat.mul_add, Nat.add_assoc, Nat.mul_comm (65536 ^ a.length) 65536, Nat.mul_assoc]
theorem val_snoc (a : List Nat) (d : Nat) : val (a ++ [d]) = val a + 65536 ^ a.length * d := by rw [val_append]; simp [val]
theorem val_take_zero (l : List Nat) (k : Nat) (h : l[k]? = some 0) : val (l.take (k + 1)) = val (l.take k) := by
  rw [List.take_add_one, h]
  show val (_ ++ [0]) = _
  rw [val_snoc]
  simp
theorem val_lt (l : List Nat) (h : ∀ d ∈ l, d < 65536) : val l < 65536 ^ l.length := by
  induction l with
  | nil => simp [val]
  | cons d l ih =>
    have := ih (fun x hx => h x (by simp [hx]))
    have hd := h d (by simp)
    rw [val, List.length_cons, Nat.pow_succ]
    omega
theorem digs_len_le (n k : Nat) (h : n < 65536 ^ k) : (digs n).length ≤ k := by
  induction k generalizing n with
  | zero => obtain rfl : n = 0 := by simpa using h
            simp [digs_zero]
  | succ k ih =>
    by_cases h0 : n = 0
    · subst h0; simp [digs_zero]
    · rw [digs_pos n h0, List.length_cons]
      have := ih (n / 65536) (by rw [Nat.pow_succ] at h; omega)
      omega
theorem lt_of_digs_len (n : Nat) : n < 65536 ^ (digs n).length := by
  have := val_lt _ (digs_lt n)
  rwa [val_digs] at this
theorem digs_last (n k : Nat) (h : (digs n).length = k + 1) : (digs n)[k]? ≠ some 0 := by
  intro h0
  have e := val_take_zero _ _ h0
  rw [List.take_of_length_le (by omega), val_digs] at e
  have hlt := val_lt ((digs n).take k) (fun d hd => digs_lt n d (List.mem_of_mem_take hd))
  rw [← e] at hlt
  have := digs_len_le n _ hlt
  rw [List.length_take] at this
  omega
theorem digs_take (l : List Nat) (k : Nat) (hd : ∀ d ∈ l, d < 65536) (hk : k ≤ l.length) (hv : val (l.take k) = val l) (hl : ∀ j, k = j + 1 → l[j]? ≠ some 0) : digs (val l) = l.take k := by
  rw [← hv]
  refine digs_val _ (fun d h => hd d (List.mem_of_mem_take h)) (fun j hj => ?_)
  rw [List.length_take, Nat.min_eq_left hk] at hj
  subst hj
  have := hl j rfl
  simpa [List.getElem?_take] using this

/-- Digits as cells. -/
def U (l : List Nat) : List Value := l.map fun (d : Nat) => Value.int .u64 (d : Int)
theorem length_U (l : List Nat) : (U l).length = l.length := by simp [U]
theorem get_U (l : List Nat) (k : Nat) : (U l)[k]? = l[k]?.map fun (d : Nat) => Value.int .u64 (d : Int) := by simp [U]
theorem U_append (a b : List Nat) : U (a ++ b) = U a ++ U b := by simp [U]
theorem U_take (l : List Nat) (k : Nat) : (U l).take k = U (l.take k) := by simp [U]
theorem Reads.dig {w wr : World} {B B' n k : Nat} {A : Option Addr} {l : List Nat} (h : Reads w B 1 A n (U l)) (hb : Below B' w wr) (hB : B ≤ B') (hk : k < n) :
    ∃ ad d, A = some ad ∧ ad.block < B ∧ l[k]? = some d ∧ wr.cell? (ad.add k) = some (.int .u64 (d : Int)) := by
  obtain ⟨ad, u, e, hbl, hu, hc⟩ := h.at_ hk
  rw [get_U] at hu
  cases hl : l[k]? with
  | none => rw [hl] at hu; cases hu
  | some d =>
    rw [hl] at hu
    injection hu with hu
    exact ⟨ad, d, e, hbl, rfl, by rw [hb.cell (by rw [block_of_add]; omega), hc, ← hu]⟩
theorem Reads.len_U {w : World} {B n : Nat} {A : Option Addr} {l : List Nat} (h : Reads w B 1 A n (U l)) : l.length = n := by have := h.1; rw [length_U] at this; omega

set_option maxHeartbeats 400000 in
theorem trim_any (B : Nat) (A : Option Addr) (n cap : Nat) (l : List Nat) (w : World) (hr : Reads w B 1 A n (U l)) (hB : B ≤ w.heap.size) (hd : ∀ d ∈ l, d < 65536) (hn : n ≤ 1073741824) (hc : n ≤ cap) :
    Calls Try.prog 143 #[.slice A n cap] w fun e w' => e = .returned (.slice A (digs (val l)).length cap) ∧ w = w' := by
  go_enter Try.func143, Try.ntmps143
  go_wp2_with fail
  go_loopw [0] (fun u wr => ∃ k : Nat, k ≤ n ∧ u = .slice A k cap ∧ val (l.take k) = val l ∧ w = wr) (fun u _ => match u with | .slice _ k _ => k | _ => 0)
  case atStart => exact ⟨n, Nat.le_refl _, rfl, by rw [List.take_of_length_le (by rw [hr.len_U]; omega)], rfl⟩
  case round =>
    obtain ⟨k, hk, rfl, hv, rfl⟩ := hrel
    have hlen := hr.len_U
    have Hd := Lib.hid hd
    have Hv := Lib.hid hv
    clear hd hv
    rcases Nat.eq_zero_or_pos k with h0 | h0
    · subst h0
      have e := digs_take l 0 Hd.out (by omega) Hv.out (by omega)
      have e2 := Lib.hid (congrArg List.length e)
      clear e
      go_wp2_with fail
      go_ret
      rw [e2.out]
      exact ⟨rfl, rfl⟩
    · obtain ⟨j, rfl⟩ : ∃ j, k = j + 1 := ⟨k - 1, by omega⟩
      obtain ⟨ad, d, rfl, hbl, hg, hcell⟩ := hr.dig (Below.refl B w) (Nat.le_refl _) (show j < n by omega)
      have Hg := Lib.hid hg
      have ej : ((j + 1 : Nat) : Int) - 1 = (j : Int) := by omega
      clear hg
      by_cases hz : d = 0
      · subst hz
        have Hv2 := Lib.hid ((val_take_zero l j Hg.out).symm.trans Hv.out)
        go_wp2_with fail
        go_roundw
        case rel => exact ⟨j, by omega, by go_num, Hv2.out, trivial⟩
        case measure => simp
      · have e := digs_take l (j + 1) Hd.out (by omega) Hv.out (fun i hi => by obtain rfl : i = j := by omega
                                                                               rw [Hg.out]; simpa using hz)
        have e2 := Lib.hid (congrArg List.length e)
        clear e
        go_wp2_with fail
        go_ret
        rw [e2.out, List.length_take, Nat.min_eq_left (by omega)]
        exact ⟨rfl, rfl⟩
end Go.Proofs.Ytijaldpmpjapiaa
