/-
  LevelPicks: words for its walk. No condition.
-/
import Derived.Test.YtpbkbkgankplbaaBigH
import Derived.Test.YtpbkbkgankplbaaTakes
import Derived.Test.YtpbkbkgankplbaaGreat
import Derived.Test.YtpbkbkgankplbaaOpen
namespace Go.Proofs.Ytpbkbkgankplbaa
open Go.ChangeShapes Go.WideShapes Go.ChangeAt Go.RowKit

/-- A task that is answered. -/
def okTask (fs : List File) (n : Int) : Bool := !(takeFrom fs n).isEmpty
def TaskO (fs : List File) (n : Int) (tv : Array Value) (w : World) : Prop :=
  (takeFrom fs n = [] ∧ tv = #[.int .i64 0, .slice none 0 0, .slice none 0 0, .bool false]) ∨
  (takeFrom fs n ≠ [] ∧ ∃ Aa ca Ab cb, tv = #[.int .i64 n, .slice Aa (takeFrom fs n).length ca, .slice Ab (takeInto fs n).length cb, .bool (decide (0 < n) && (takeInto fs n).isEmpty)] ∧
    w.ownsRow 0 3 1 (.slice Aa (takeFrom fs n).length ca) (takeFrom fs n).length (numsOf (takeFrom fs n)) ∧ w.ownsRow 0 3 1 (.slice Ab (takeInto fs n).length cb) (takeInto fs n).length (numsOf (takeInto fs n)))
theorem TaskO.step {fs : List File} {n : Int} {tv : Array Value} {w w' : World} (h : TaskO fs n tv w) (hb : Below w.heap.size w w') : TaskO fs n tv w' := by
  rcases h with h | ⟨h1, Aa, ca, Ab, cb, h2, h3, h4⟩
  · exact .inl h
  · exact .inr ⟨h1, Aa, ca, Ab, cb, h2, own_below h3 hb, own_below h4 hb⟩
theorem TaskO.put {fs : List File} {n : Int} {tv : Array Value} {w w' : World} {g B : Nat} {T : TypeId} {cur cs : Array Value} (h : TaskO fs n tv w) (k : Blk w g T cur) (p : Put w w' g T cs) (_e : B ≤ g) (hne : 3 ≠ T := by decide) : TaskO fs n tv w' := by
  rcases h with h | ⟨h1, Aa, ca, Ab, cb, h2, h3, h4⟩
  · exact .inl h
  · exact .inr ⟨h1, Aa, ca, Ab, cb, h2, h3.kept p.grown (own_ne_blk h3 k hne), h4.kept p.grown (own_ne_blk h4 k hne)⟩
theorem TaskO.four {fs : List File} {n : Int} {tv : Array Value} {w : World} (h : TaskO fs n tv w) : ∃ a b c d, tv = #[a, b, c, d] ∧ a.oneCell' = true ∧ b.oneCell' = true ∧ c.oneCell' = true ∧ d.oneCell' = true := by
  rcases h with ⟨_, h⟩ | ⟨_, Aa, ca, Ab, cb, h, _⟩ <;> exact ⟨_, _, _, _, h, rfl, rfl, rfl, rfl⟩
theorem TaskO.takes {fs : List File} {n : Int} {tv : Array Value} {w : World} (h : TaskO fs n tv w) :
    (takeFrom fs n = [] ∧ okTask fs n = false ∧ tv = #[.int .i64 0, .slice none 0 0, .slice none 0 0, .bool false]) ∨
      (takeFrom fs n ≠ [] ∧ okTask fs n = true ∧ ∃ Aa ca Ab cb, tv = #[.int .i64 n, .slice Aa (takeFrom fs n).length ca, .slice Ab (takeInto fs n).length cb, .bool (decide (0 < n) && (takeInto fs n).isEmpty)] ∧
        Reads w w.heap.size 1 Aa (takeFrom fs n).length (numsOf (takeFrom fs n)) ∧ Reads w w.heap.size 1 Ab (takeInto fs n).length (numsOf (takeInto fs n))) := by
  rcases h with ⟨h, h2⟩ | ⟨h1, Aa, ca, Ab, cb, h2, h3, h4⟩
  · exact .inl ⟨h, by unfold okTask; rw [h]; rfl, h2⟩
  · exact .inr ⟨h1, by unfold okTask; simp [h1], Aa, ca, Ab, cb, h2, Reads.of_own h3, Reads.of_own h4⟩
/-- What Pick answers. -/
def PickV (fs : List File) (n : Int) (v : Value) (w : World) : Prop := ∃ tv, v = .tuple #[.agg tv, .bool (okTask fs n)] ∧ TaskO fs n tv w
theorem PickV.stable (fs : List File) (n : Int) : ∀ v w w', Grow w w' → PickV fs n v w → PickV fs n v w' := fun _ _ _ hG ⟨tv, e, h⟩ => ⟨tv, e, h.step hG⟩
def TaskV (fs : List File) (n : Int) (v : Value) (w : World) : Prop := ∃ tv, v = .agg tv ∧ TaskO fs n tv w
theorem TaskV.stable (fs : List File) (n : Int) : ∀ v w w', Grow w w' → TaskV fs n v w → TaskV fs n v w' := fun _ _ _ hG ⟨tv, e, h⟩ => ⟨tv, e, h.step hG⟩
/-- A version of the call's own. -/
def VerV (lg nx sq : Int) (len : Nat) (fs : List File) (v : Value) (w : World) : Prop := ∃ A c, v = .agg #[.int .i64 lg, .int .i64 nx, .int .i64 sq, .slice A len c] ∧ Reads w w.heap.size 6 A len (cellsOf fs)
theorem VerV.stable (lg nx sq : Int) (len : Nat) (fs : List File) : ∀ v w w', Grow w w' → VerV lg nx sq len fs v w → VerV lg nx sq len fs v w' := fun _ _ _ hG ⟨A, c, e, h⟩ => ⟨A, c, e, (h.below hG).more hG.size⟩
theorem version_V (B : Nat) (A : Option Addr) (len cap : Nat) (fs : List File) (lg nx sq : Int) (w : World) (hlen : len * 64 ≤ 140737488351232) (hr : Reads w B 6 A len (cellsOf fs)) (hB : B ≤ w.heap.size) :
    Calls Try.prog 11 #[.agg #[.int .i64 lg, .int .i64 nx, .int .i64 sq, .slice A len cap]] w fun e w' => ∃ v, e = .returned v ∧ Grow w w' ∧ VerV lg nx sq len fs v w' :=
  (version_any B A len cap fs lg nx sq w hlen hr hB).mono fun e w' ⟨A', c, h1, h2, h3⟩ => ⟨_, h1, h3, A', c, rfl, Reads.of_own h2⟩
theorem pick_V (v : Value) (len : Nat) (fs : List File) (c0 : Cfg) (lg nx sq : Int) (w : World) (hlen : len ≤ 1000000) (hv : VerV lg nx sq len fs v w) (hnum : ∀ f ∈ fs, 0 ≤ f.num ∧ f.num ≤ 4611686018427387904) (hsz : ∀ f ∈ fs, 0 ≤ f.size ∧ f.size ≤ 1048576) :
    Calls Try.prog 13 #[v, .agg #[.int .i64 c0.zero, .int .i64 c0.base, .int .i64 c0.times, .int .i64 c0.table]] w fun e w' => ∃ v, e = .returned v ∧ Grow w w' ∧ PickV fs (pickTo fs c0.fit 4).1 v w' := by
  obtain ⟨A, c, rfl, hr⟩ := hv
  refine (pick_any w.heap.size A len c fs c0 lg nx sq w hlen hr (Nat.le_refl _) hnum hsz).mono fun e w' ⟨hT, hb⟩ => ?_
  rcases hT with ⟨h1, rfl⟩ | ⟨h1, va, vb, rfl, h2, h3⟩
  · exact ⟨_, rfl, hb, _, by unfold okTask; rw [h1]; rfl, .inl ⟨h1, rfl⟩⟩
  · obtain ⟨Aa, ca, rfl, -⟩ := reads_own h2
    obtain ⟨Ab, cb, rfl, -⟩ := reads_own h3
    exact ⟨_, rfl, hb, _, by unfold okTask; simp [h1], .inr ⟨h1, Aa, ca, Ab, cb, rfl, own_base h2 (Nat.zero_le _), own_base h3 (Nat.zero_le _)⟩⟩

theorem run_build_Big0 (w : World) : (Instr.build 43 #[]).run Try.prog w = .ok (.agg #[.bool false, .slice none 0 0]) w := by
  have hu := Try.underlying43
  go_simp
theorem fit_grow (n lo hi : Int) (w : World) : Calls Try.prog 15 #[.int .i64 n, .int .i64 lo, .int .i64 hi] w fun e w' => e = .returned (.int .i64 (clamp n lo hi)) ∧ Grow w w' :=
  (fitL_any n lo hi w).mono fun e w' ⟨h1, h2⟩ => ⟨h1, by rw [← h2]; exact Grow.refl _⟩
theorem clamp_in (n lo hi : Int) (h : lo ≤ hi) (h0 : -9223372036854775808 ≤ lo) (h1 : hi ≤ 9223372036854775807) : -9223372036854775808 ≤ clamp n lo hi ∧ clamp n lo hi ≤ 9223372036854775807 := by
  have := clamp_bd n lo hi h
  omega
theorem scoreN_nil (n : Int) : scoreN [] n = 0 := by unfold scoreN; split <;> rfl
theorem scoreN_snoc (l : List File) (f : File) (n : Int) : scoreN (l ++ [f]) n = scoreN l n + (if f.level = n then (if n = 0 then 1 else f.size) else 0) := by
  unfold scoreN atLevel
  rw [List.filter_append]
  by_cases h : f.level = n
  · have e : List.filter (fun x => x.level == n) [f] = [f] := by simp [h]
    rw [e, if_pos h]
    by_cases h0 : n = 0
    · rw [if_pos h0, if_pos h0, if_pos h0]; simp
    · rw [if_neg h0, if_neg h0, if_neg h0, sumSize_snoc]
  · have e : List.filter (fun x => x.level == n) [f] = [] := by simp [h]
    rw [e, if_neg h, List.append_nil]; simp
theorem take_snoc' {α : Type} (l : List α) (k : Nat) (x : α) (h : l[k]? = some x) : l.take (k + 1) = l.take k ++ [x] := by
  rw [List.take_add_one, h]; rfl
theorem scoreN_bd (fs : List File) (i : Nat) (n : Int) (hlen : fs.length ≤ 30) (hsz : ∀ f ∈ fs, 0 ≤ f.size ∧ f.size ≤ 1048576) : 0 ≤ scoreN (fs.take i) n ∧ scoreN (fs.take i) n ≤ 31457280 := by
  have hl : (atLevel (fs.take i) n).length ≤ (fs.take i).length := List.length_filter_le _ _
  have hl2 : (fs.take i).length ≤ fs.length := by rw [List.length_take]; omega
  have hs := sumSize_bd (atLevel (fs.take i) n) fun f hf => hsz f (List.mem_of_mem_take (List.mem_filter.1 hf).1)
  unfold scoreN
  split <;> omega
theorem scoreM_zero (c : Cfg) : scoreM c 0 = c.zero := rfl
theorem scoreM_pos (c : Cfg) (k : Nat) (h : 0 < k) : scoreM c (k : Int) = limOf c.base c.times (k - 1) := by
  unfold scoreM
  rw [if_neg (by omega)]
  congr 1
  omega
theorem limOf_step (b t : Int) (k : Nat) (h : 0 < k) : limOf b t k = limOf b t (k - 1) * t := by
  obtain ⟨j, rfl⟩ : ∃ j, k = j + 1 := ⟨k - 1, by omega⟩
  rfl
theorem pick_step (fs : List File) (c : Cfg) (k : Nat) : pickTo fs c (k + 1) = if scoreM c k ≤ scoreN fs k ∧ ((pickTo fs c k).1 < 0 ∨ (pickTo fs c k).2.1 * scoreM c k < scoreN fs k * (pickTo fs c k).2.2) then ((k : Int), scoreN fs k, scoreM c k) else pickTo fs c k := rfl
theorem natAbs_big_mul {a b : Int} (h0 : 0 ≤ a) (h1 : a ≤ 1048576000000) (h2 : 0 ≤ b) (h3 : b ≤ 1048576000000) : (a * b).natAbs < big := by
  refine big_of ?_
  rw [Int.natAbs_mul]
  have h := Nat.mul_le_mul (show a.natAbs ≤ 1048576000000 by omega) (show b.natAbs ≤ 1048576000000 by omega)
  omega
theorem small_big {a : Int} (h0 : -1000000000000000000000000000000000000000000 ≤ a) (h1 : a ≤ 1000000000000000000000000000000000000000000) : a.natAbs < big := big_of (by omega)
theorem MagR.stepG {w w' : World} {v : Value} {n : Nat} (h : MagR w v n) (hb : Grow w w') : MagR w' v n := h.step hb
end Go.Proofs.Ytpbkbkgankplbaa
