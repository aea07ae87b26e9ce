/-
  num's Sum and the least of a list: what each answers. Condition: the numbers are of 64 bits, not too many.
-/
import Derived.Test.YtpdeihienkbeeaaNumE
import Derived.Laws.Externs
namespace Go.Proofs.Ytpdeihienkbeeaa
open Go.RowKit

/-- A list of int64s, as cells. -/
def I (l : List Int) : List Value := l.map (.int .i64)
theorem get_I (l : List Int) (k : Nat) : (I l)[k]? = (l[k]?).map (.int .i64) := by unfold I; simp
theorem Reads.num {w wr : World} {B B' n k : Nat} {A : Option Addr} {l : List Int} (h : Reads w B 1 A n (I l)) (hb : Below B' w wr) (hB : B ≤ B') (hk : k < n) :
    ∃ ad d, A = some ad ∧ l[k]? = some d ∧ Cell wr B' (ad.add k) (.int .i64 d) := by
  obtain ⟨ad, u, e, hbl, hu, hc⟩ := h.at_ hk
  rw [get_I] at hu
  cases hl : l[k]? with
  | none => rw [hl] at hu; cases hu
  | some d =>
    rw [hl] at hu
    injection hu with hu
    subst hu
    exact ⟨ad, d, e, rfl, by rw [block_of_add]; omega, (hb.cell (by rw [block_of_add]; omega)).trans hc⟩
theorem Reads.len_I {w : World} {B n : Nat} {A : Option Addr} {l : List Int} (h : Reads w B 1 A n (I l)) : l.length = n := by have := h.1; unfold I at this; rw [List.length_map] at this; omega

section
variable {P : Program} {E : Operand → Option Value} {o : Oper} {w w' : World} {v : Value}
/-- A call that runs here and now. -/
theorem Runs.here {f : FuncId} {args : Array Operand} {ts : Array TypeId} {vs : List Value} (ho : o.op = .call { callee := .value (.func f), args := args, argTypes := ts }) (hf : E (.func f) = some (.func (.func f) #[] #[])) (hx : evL E args.toList = some vs)
    (he : (callFunc f vs.toArray).run P w = .ok (.value v) w') : Runs P E o w v w' := fun ρ h => by
  have hargs : args.map ρ = vs.toArray := by
    apply Array.ext'
    rw [Array.toList_map, evL_map h hx]
  unfold execOp
  simp only [ho, resolve, h _ _ hf, Deferred.ofValue, hargs, Sem.run_bind, Sem.run_pure, Result.andThen_ok, invoke]
  simp [he]
end
theorem add64_0 (x y : Nat) (w : World) : (callFunc 47 [.int .u64 (x : Int), .int .u64 (y : Int), .int .u64 0].toArray).run Try.prog w =
    .ok (.value (.tuple #[.int .u64 (((x + y) % 18446744073709551616 : Nat) : Int), .int .u64 (((x + y) / 18446744073709551616 : Nat) : Int)])) w := by
  rw [run_callFunc_extern Try.func47 (by kernel_rfl) (by kernel_rfl) (by kernel_rfl) (e := add64Entry) (by kernel_rfl), run_add64 x y 0 (by omega) (by omega) (by omega) (by omega)]
  simp only [Result.andThen]
  congr 5 <;> omega
theorem add64_c (x y c : Nat) (hc : c ≤ 1) (w : World) : (callFunc 47 [.int .u64 (x : Int), .int .u64 (y : Int), .int .u64 (c : Int)].toArray).run Try.prog w =
    .ok (.value (.tuple #[.int .u64 (((x + y + c) % 18446744073709551616 : Nat) : Int), .int .u64 (((x + y + c) / 18446744073709551616 : Nat) : Int)])) w := by
  rw [run_callFunc_extern Try.func47 (by kernel_rfl) (by kernel_rfl) (by kernel_rfl) (e := add64Entry) (by kernel_rfl), run_add64 x y c (by omega) (by omega) (by omega) (by omega)]
  simp only [Result.andThen]
  congr 5 <;> omega

/-- The sum of the first k. -/
def sumTo (l : List Int) (k : Nat) : Int := (l.take k).sum
theorem sumTo_succ (l : List Int) (k : Nat) (x : Int) (h : l[k]? = some x) : sumTo l (k + 1) = sumTo l k + x := by
  unfold sumTo
  rw [List.take_add_one, h, List.sum_append]
  simp
theorem sum_le (l : List Int) (hl : ∀ x ∈ l, I64 x) : -(l.length * 9223372036854775808 : Int) ≤ l.sum ∧ l.sum ≤ (l.length * 9223372036854775808 : Int) := by
  induction l with
  | nil => simp
  | cons a t ih =>
    have h1 := hl a (by simp)
    have h2 := ih fun x hx => hl x (by simp [hx])
    unfold I64 at h1
    rw [List.sum_cons, List.length_cons]
    omega
theorem sumTo_bd (l : List Int) (k : Nat) (hl : ∀ x ∈ l, I64 x) (hn : l.length ≤ 1000000000) : -9223372036854775808000000000 ≤ sumTo l k ∧ sumTo l k ≤ 9223372036854775808000000000 := by
  have h := sum_le (l.take k) fun x hx => hl x (List.mem_of_mem_take hx)
  have h2 : (l.take k).length ≤ 1000000000 := by rw [List.length_take]; omega
  unfold sumTo
  omega
/-- A number's 64 bits. -/
def bits64 (v : Int) : Nat := (v % 18446744073709551616).toNat
theorem bits64_lt (v : Int) : bits64 v < 18446744073709551616 := by unfold bits64; omega
theorem wrap_bits (v : Int) : IntKind.u64.wrap v = (bits64 v : Int) := by rw [wrap_u64]; unfold bits64; omega
theorem wrap_back (v : Int) (n : Nat) (h : I64 v) (hn : n = bits64 v) : IntKind.i64.wrap (n : Int) = v := by
  obtain ⟨h0, h1⟩ := h
  subst hn
  unfold bits64
  rw [IntKind.wrap_i64]
  omega
/-- The sign of a number, as 64 bits. -/
def sext (v : Int) : Int := if v < 0 then -1 else 0
theorem shr63 (v : Int) (h : I64 v) : v.fdiv (2 ^ (min (63 : Int).toNat IntKind.i64.bits)) = sext v := by
  obtain ⟨h0, h1⟩ := h
  show v.fdiv 9223372036854775808 = _
  rw [Int.fdiv_eq_ediv_of_nonneg _ (by omega)]
  unfold sext
  split <;> omega
/-- What a number of 128 bits is of a sum. -/
def Acc (hi lo : Nat) (s : Int) : Prop := hi < 18446744073709551616 ∧ lo < 18446744073709551616 ∧ ((hi : Int) * 18446744073709551616 + lo) = s % 340282366920938463463374607431768211456
theorem Acc.step {hi lo : Nat} {s v : Int} (h : Acc hi lo s) (hv : I64 v) :
    Acc ((hi + bits64 (sext v) + (lo + bits64 v) / 18446744073709551616) % 18446744073709551616) ((lo + bits64 v) % 18446744073709551616) (s + v) := by
  obtain ⟨h1, h2, h3⟩ := h
  obtain ⟨h4, h5⟩ := hv
  unfold bits64 sext
  refine ⟨Nat.mod_lt _ (by omega), Nat.mod_lt _ (by omega), ?_⟩
  split <;> omega
theorem Acc.fits {hi lo : Nat} {s : Int} (h : Acc hi lo s) (h0 : -9223372036854775808000000000 ≤ s) (h1 : s ≤ 9223372036854775808000000000) (v : Int) (hv : v = IntKind.i64.wrap (lo : Int)) :
    (hi = bits64 (sext v) ↔ fits s = true) ∧ (fits s = true → v = s) := by
  obtain ⟨h2, h3, h4⟩ := h
  rw [IntKind.wrap_i64] at hv
  unfold bits64 sext Go.Proofs.Ytpdeihienkbeeaa.fits
  simp only [Bool.and_eq_true, decide_eq_true_eq]
  constructor
  · constructor
    · intro h
      split at h <;> omega
    · intro h
      split <;> omega
  · intro h
    omega

theorem sum_any (B : Nat) (A : Option Addr) (n cap : Nat) (l : List Int) (w : World) (hr : Reads w B 1 A n (I l)) (hB : B ≤ w.heap.size) (hl : ∀ x ∈ l, I64 x) (hn : n ≤ 1000000000) :
    Calls Try.prog 16 #[.slice A n cap] w fun e w' => e = .returned (.tuple #[.int .i64 (smallOf l.sum), .bool (fits l.sum)]) ∧ w = w' := by
  have hlen := hr.len_I
  refine Calls.start 40 Try.func16 rfl rfl rfl ?_
  refine Cd.seq ?_
  refine Cd.region ?_
  refine Seq.val (Runs.assign rfl rfl) rfl rfl rfl ?_
  refine Seq.val (Runs.assign rfl rfl) rfl rfl rfl ?_
  refine Seq.nil ?_
  refine Post.weak (F' := [(0, _), (2, _), (3, _)]) ⟨rfl, rfl, rfl, trivial⟩ ?_
  refine Post.then_ ?_
  refine Cd.seq ?_
  refine Cd.region ?_
  refine Seq.val (Runs.assign rfl rfl) rfl rfl rfl ?_
  refine Seq.val (Runs.assign rfl rfl) rfl rfl rfl ?_
  refine Seq.nil ?_
  refine Post.weak (F' := [(0, _), (2, _), (3, _), (4, _), (5, _)]) ⟨rfl, rfl, rfl, rfl, rfl, trivial⟩ ?_
  refine Post.then_ ?_
  refine Cd.seq ?_
  refine Cd.seq ?_
  refine Cd.region ?_
  refine Seq.val (Runs.move rfl rfl) rfl rfl rfl ?_
  refine Seq.val (Runs.len rfl rfl Try.underlying26) rfl rfl rfl ?_
  refine Seq.val (Runs.move rfl rfl) rfl rfl rfl ?_
  refine Seq.nil ?_
  refine Post.weak (F' := [(0, _), (2, _), (3, _), (4, _), (5, _), (9, _), (10, _), (11, _)]) ⟨rfl, rfl, rfl, rfl, rfl, rfl, rfl, rfl, trivial⟩ ?_
  refine Post.then_ ?_
  refine Cd.block ?_
  refine Cd.loop (σ := Nat × Nat × Nat) (fun s => [(4, .int .u64 (s.2.1 : Int)), (5, .int .u64 (s.2.2 : Int)), (9, .slice A n cap), (10, .int .i64 (n : Int)), (11, .int .i64 (s.1 : Int))])
    (fun s wr => s.1 ≤ n ∧ Acc s.2.1 s.2.2 (sumTo l s.1) ∧ w = wr) (fun s => n - s.1) (0, 0, 0) ⟨by omega, ⟨by decide, by decide, by simp [sumTo]⟩, rfl⟩ ⟨rfl, rfl, rfl, rfl, rfl, trivial⟩ ?_
  rintro ⟨i, hi, lo⟩ wr ⟨hin, hacc, rfl⟩
  dsimp only at hin hacc ⊢
  refine Cd.seq ?_
  refine Cd.region ?_
  refine Seq.val (Runs.lss rfl rfl rfl) rfl rfl rfl ?_
  refine Seq.nil ?_
  refine Post.weak (F' := [(4, _), (5, _), (9, _), (10, _), (11, _), (12, _)]) ⟨rfl, rfl, rfl, rfl, rfl, rfl, trivial⟩ ?_
  refine Post.then_ ?_
  refine Cd.seq ?_
  refine Cd.condD rfl (fun hc => ?_) (fun hc => ?_)
  · obtain ⟨ad, v, rfl, hv, ci⟩ := hr.num (Below.refl _ _) hB (show i < n by omega)
    have hv64 := hl v (List.mem_of_getElem? hv)
    have hc1 : (lo + bits64 v) / 18446744073709551616 ≤ 1 := by have := hacc.2.1; have := bits64_lt v; omega
    refine Cd.skip ?_
    refine Post.then_ ?_
    refine Cd.seq ?_
    refine Cd.block ?_
    refine Cd.seq ?_
    refine Cd.region ?_
    refine Seq.val (Runs.index1 rfl rfl rfl Try.underlying26 (by kernel_rfl) (j := i) rfl (by omega)) rfl rfl rfl ?_
    refine Seq.val (Runs.load1 rfl rfl Try.underlying2 rfl ci.val) rfl rfl rfl ?_
    refine Seq.val (Runs.assign rfl rfl) rfl rfl rfl ?_
    refine Seq.nil ?_
    refine Post.weak (F' := [(4, _), (5, _), (7, _), (9, _), (10, _), (11, _), (12, _)]) ⟨rfl, rfl, rfl, rfl, rfl, rfl, rfl, trivial⟩ ?_
    refine Post.then_ ?_
    refine Cd.seq ?_
    refine Cd.region ?_
    refine Seq.val (Runs.assign rfl rfl) rfl rfl rfl ?_
    refine Seq.nil ?_
    refine Post.weak (F' := [(4, _), (5, _), (7, _), (8, _), (9, _), (10, _), (11, _), (12, _)]) ⟨rfl, rfl, rfl, rfl, rfl, rfl, rfl, rfl, trivial⟩ ?_
    refine Post.then_ ?_
    refine Cd.seq ?_
    refine Cd.region ?_
    refine Seq.val (Runs.move rfl rfl) rfl rfl rfl ?_
    refine Seq.val (Runs.move rfl rfl) rfl rfl rfl ?_
    refine Seq.val (Runs.convI rfl rfl Try.underlying2 Try.underlying62 (wrap_bits v)) rfl rfl rfl ?_
    refine Seq.val (Runs.here rfl rfl rfl (add64_0 lo (bits64 v) _)) rfl rfl rfl ?_
    refine Seq.val (Runs.move rfl rfl) rfl rfl rfl ?_
    refine Seq.val (Runs.extract rfl rfl rfl) rfl rfl rfl ?_
    refine Seq.val (Runs.extract rfl rfl rfl) rfl rfl rfl ?_
    refine Seq.val (Runs.assign rfl rfl) rfl rfl rfl ?_
    refine Seq.val (Runs.assign rfl rfl) rfl rfl rfl ?_
    refine Seq.nil ?_
    refine Post.weak (F' := [(4, _), (5, _), (7, _), (8, _), (9, _), (10, _), (11, _), (12, _)]) ⟨rfl, rfl, rfl, rfl, rfl, rfl, rfl, rfl, trivial⟩ ?_
    refine Post.then_ ?_
    refine Cd.region ?_
    refine Seq.val (Runs.move rfl rfl) rfl rfl rfl ?_
    refine Seq.val (Runs.move rfl rfl) rfl rfl rfl ?_
    refine Seq.val (Runs.shrW rfl rfl rfl (by decide) (shr63 v hv64)) rfl rfl rfl ?_
    refine Seq.val (Runs.convI rfl rfl Try.underlying2 Try.underlying62 (wrap_bits (sext v))) rfl rfl rfl ?_
    refine Seq.val (Runs.move rfl rfl) rfl rfl rfl ?_
    refine Seq.val (Runs.here rfl rfl rfl (add64_c hi (bits64 (sext v)) _ hc1 _)) rfl rfl rfl ?_
    refine Seq.val (Runs.move rfl rfl) rfl rfl rfl ?_
    refine Seq.val (Runs.extract rfl rfl rfl) rfl rfl rfl ?_
    refine Seq.val (Runs.extract rfl rfl rfl) rfl rfl rfl ?_
    refine Seq.val (Runs.assign rfl rfl) rfl rfl rfl ?_
    refine Seq.nil ?_
    refine Post.weak (F' := [(4, _), (5, _), (7, _), (8, _), (9, _), (10, _), (11, _), (12, _)]) ⟨rfl, rfl, rfl, rfl, rfl, rfl, rfl, rfl, trivial⟩ ?_
    refine Post.block_normal ?_
    refine Post.then_ ?_
    refine Cd.region ?_
    refine Seq.val (Runs.addI rfl rfl rfl (by omega) (by omega)) rfl rfl rfl ?_
    refine Seq.val (Runs.move rfl rfl) rfl rfl rfl ?_
    refine Seq.nil ?_
    refine Post.weak (F' := [(4, _), (5, _), (7, _), (8, _), (9, _), (10, _), (11, _), (12, _)]) ⟨rfl, rfl, rfl, rfl, rfl, rfl, rfl, rfl, trivial⟩ ?_
    refine Post.round (i + 1, _, _) ⟨rfl, rfl, rfl, rfl, rfl, trivial⟩ ⟨by dsimp only; omega, ?_, rfl⟩ (by dsimp only; omega)
    dsimp only
    rw [sumTo_succ _ _ _ hv]
    exact hacc.step hv64
  · obtain rfl : i = n := by omega
    have hs : sumTo l i = l.sum := by unfold sumTo; rw [List.take_of_length_le (by omega)]
    have hbd := sumTo_bd l i hl (by omega)
    rw [hs] at hacc hbd
    obtain ⟨hf1, hf2⟩ := hacc.fits hbd.1 hbd.2 _ rfl
    have hw : I64 (IntKind.i64.wrap (lo : Int)) := by rw [IntKind.wrap_i64]; unfold I64; omega
    refine Cd.exit ?_
    refine Post.then_exit ?_
    refine Post.round_exit ?_
    refine Post.block_exit ?_
    refine Post.then_ ?_
    refine Cd.seq ?_
    refine Cd.seq ?_
    refine Cd.region ?_
    refine Seq.val (Runs.move rfl rfl) rfl rfl rfl ?_
    refine Seq.val (Runs.move rfl rfl) rfl rfl rfl ?_
    refine Seq.val (Runs.convI rfl rfl Try.underlying62 Try.underlying2 rfl) rfl rfl rfl ?_
    refine Seq.val (Runs.shrW rfl rfl rfl (by decide) (shr63 _ hw)) rfl rfl rfl ?_
    refine Seq.val (Runs.convI rfl rfl Try.underlying2 Try.underlying62 (wrap_bits _)) rfl rfl rfl ?_
    refine Seq.val (Runs.neqI rfl rfl rfl) rfl rfl rfl ?_
    refine Seq.nil ?_
    refine Post.weak (F' := [(4, _), (5, _), (9, _), (10, _), (11, _), (12, _), (37, _)]) ⟨rfl, rfl, rfl, rfl, rfl, rfl, rfl, trivial⟩ ?_
    refine Post.then_ ?_
    refine Cd.condD rfl (fun hne => ?_) (fun hne => ?_)
    · have hf : fits l.sum = false := by
        rw [Bool.eq_false_iff]
        intro h
        exact hne (by rw [hf1.2 h])
      refine Cd.seq ?_
      refine Cd.region ?_
      refine Seq.val (Runs.assign rfl rfl) rfl rfl rfl ?_
      refine Seq.val (Runs.assign rfl rfl) rfl rfl rfl ?_
      refine Seq.nil ?_
      refine Post.weak (F' := [(2, _), (3, _), (4, _), (5, _), (9, _), (10, _), (11, _), (12, _), (37, _)]) ⟨rfl, rfl, rfl, rfl, rfl, rfl, rfl, rfl, rfl, trivial⟩ ?_
      refine Post.then_ ?_
      refine Cd.ret ?_
      refine Post.then_ret ?_
      refine Post.end2 rfl rfl rfl (.inl rfl) ?_
      refine ⟨?_, rfl⟩
      unfold smallOf
      rw [hf]; rfl
    · have hf : fits l.sum = true := hf1.1 (by omega)
      refine Cd.skip ?_
      refine Post.then_ ?_
      refine Cd.seq ?_
      refine Cd.region ?_
      refine Seq.val (Runs.move rfl rfl) rfl rfl rfl ?_
      refine Seq.val (Runs.convI rfl rfl Try.underlying62 Try.underlying2 rfl) rfl rfl rfl ?_
      refine Seq.val (Runs.assign rfl rfl) rfl rfl rfl ?_
      refine Seq.val (Runs.assign rfl rfl) rfl rfl rfl ?_
      refine Seq.nil ?_
      refine Post.weak (F' := [(2, _), (3, _), (4, _), (5, _), (9, _), (10, _), (11, _), (12, _), (37, _)]) ⟨rfl, rfl, rfl, rfl, rfl, rfl, rfl, rfl, rfl, trivial⟩ ?_
      refine Post.then_ ?_
      refine Cd.ret ?_
      refine Post.end2 rfl rfl rfl (.inl rfl) ?_
      refine ⟨?_, rfl⟩
      unfold smallOf
      rw [hf, if_pos rfl, ← hf2 hf]

/-- The least of the first k. -/
def leastTo (l : List Int) : Nat → Int
  | 0 => l.getD 0 0
  | k + 1 => min (leastTo l k) (l.getD k 0)
theorem leastTo_neg (l : List Int) (k : Nat) (h0 : 0 < k) : leastTo l k < 0 ↔ ∃ j, j < k ∧ l.getD j 0 < 0 := by
  induction k with
  | zero => omega
  | succ k ih =>
    have e : leastTo l (k + 1) = min (leastTo l k) (l.getD k 0) := rfl
    rcases Nat.eq_zero_or_pos k with rfl | hk
    · rw [e]
      have e0 : leastTo l 0 = l.getD 0 0 := rfl
      rw [e0]
      constructor
      · intro h; exact ⟨0, by omega, by omega⟩
      · rintro ⟨j, hj, hx⟩
        obtain rfl : j = 0 := by omega
        omega
    · have ih := ih hk
      rw [e]
      constructor
      · intro h
        by_cases h1 : leastTo l k < 0
        · obtain ⟨j, hj, hx⟩ := ih.1 h1
          exact ⟨j, by omega, hx⟩
        · exact ⟨k, by omega, by omega⟩
      · rintro ⟨j, hj, hx⟩
        rcases Nat.lt_or_ge j k with h | h
        · have := ih.2 ⟨j, h, hx⟩
          omega
        · obtain rfl : j = k := by omega
          omega
theorem least_neg (l : List Int) (h0 : 0 < l.length) : leastTo l l.length < 0 ↔ ∃ x ∈ l, x < 0 := by
  rw [leastTo_neg l _ h0]
  constructor
  · rintro ⟨j, hj, hx⟩
    rw [List.getD_eq_getElem?_getD, List.getElem?_eq_getElem hj] at hx
    exact ⟨l[j], List.getElem_mem hj, hx⟩
  · rintro ⟨x, hx, h⟩
    obtain ⟨j, hj, rfl⟩ := List.getElem_of_mem hx
    exact ⟨j, hj, by rw [List.getD_eq_getElem?_getD, List.getElem?_eq_getElem hj]; exact h⟩
theorem getD_of_get {l : List Int} {k : Nat} {v : Int} (h : l[k]? = some v) : l.getD k 0 = v := by rw [List.getD_eq_getElem?_getD, h]; rfl
theorem min_any (B : Nat) (A : Option Addr) (n cap : Nat) (l : List Int) (w : World) (hr : Reads w B 1 A n (I l)) (hB : B ≤ w.heap.size) (hn : n ≤ 1000000000) (h0 : 0 < n) :
    Calls Try.prog 48 #[.slice A n cap] w fun e w' => e = .returned (.int .i64 (leastTo l n)) ∧ Grow w w' := by
  have hlen := hr.len_I
  obtain ⟨ad0, v0, hA0, hv0, c0⟩ := hr.num (Below.refl _ _) hB h0
  refine Calls.start 25 Try.func48 rfl rfl rfl ?_
  refine Cd.seq ?_
  refine Cd.region ?_
  refine Seq.val (Runs.assign rfl rfl) rfl rfl rfl ?_
  refine Seq.nil ?_
  refine Post.weak (F' := [(0, _), (2, _)]) ⟨rfl, rfl, trivial⟩ ?_
  refine Post.then_ ?_
  refine Cd.seq ?_
  refine Cd.seq ?_
  refine Cd.region ?_
  refine Seq.val (Runs.move rfl rfl) rfl rfl rfl ?_
  refine Seq.val (Runs.len rfl rfl Try.underlying26) rfl rfl rfl ?_
  refine Seq.val (Runs.lss rfl rfl rfl) rfl rfl rfl ?_
  refine Seq.nil ?_
  refine Post.weak (F' := [(0, _), (2, _), (7, _)]) ⟨rfl, rfl, rfl, trivial⟩ ?_
  refine Post.then_ ?_
  refine Cd.cond rfl (fun h => ?_) (fun h => ?_)
  · exfalso
    simp at h
    omega
  subst hA0
  refine Cd.skip ?_
  refine Post.then_ ?_
  refine Cd.seq ?_
  refine Cd.region ?_
  refine Seq.val (Runs.move rfl rfl) rfl rfl rfl ?_
  refine Seq.val (Runs.index1 rfl rfl rfl Try.underlying26 (by kernel_rfl) (j := 0) rfl (by omega)) rfl rfl rfl ?_
  refine Seq.val (Runs.load1 rfl rfl Try.underlying2 rfl c0.val) rfl rfl rfl ?_
  refine Seq.val (Runs.assign rfl rfl) rfl rfl rfl ?_
  refine Seq.nil ?_
  refine Post.weak (F' := [(0, _), (2, _), (3, _), (7, _)]) ⟨rfl, rfl, rfl, rfl, trivial⟩ ?_
  refine Post.then_ ?_
  refine Cd.seq ?_
  refine Cd.seq ?_
  refine Cd.region ?_
  refine Seq.val (Runs.assign rfl rfl) rfl rfl rfl ?_
  refine Seq.nil ?_
  refine Post.weak (F' := [(0, _), (2, _), (3, _), (4, _), (7, _)]) ⟨rfl, rfl, rfl, rfl, rfl, trivial⟩ ?_
  refine Post.then_ ?_
  refine Cd.block ?_
  have e1 : v0 = leastTo l 1 := by
    have e : leastTo l 1 = min (l.getD 0 0) (l.getD 0 0) := rfl
    rw [e, getD_of_get hv0]
    omega
  rw [e1]
  refine Cd.loop (σ := Nat) (fun s => [(0, .slice (some ad0) n cap), (3, .int .i64 (leastTo l s)), (4, .int .i64 (s : Int))])
    (fun s wr => s ≤ n ∧ w = wr) (fun s => n - s) 1 ⟨by omega, rfl⟩ ⟨rfl, rfl, rfl, trivial⟩ ?_
  rintro i wr ⟨hin, rfl⟩
  refine Cd.seq ?_
  refine Cd.seq ?_
  refine Cd.region ?_
  refine Seq.val (Runs.move rfl rfl) rfl rfl rfl ?_
  refine Seq.val (Runs.move rfl rfl) rfl rfl rfl ?_
  refine Seq.val (Runs.len rfl rfl Try.underlying26) rfl rfl rfl ?_
  refine Seq.val (Runs.lss rfl rfl rfl) rfl rfl rfl ?_
  refine Seq.nil ?_
  refine Post.weak (F' := [(0, _), (3, _), (4, _), (15, _)]) ⟨rfl, rfl, rfl, rfl, trivial⟩ ?_
  refine Post.then_ ?_
  refine Cd.condD rfl (fun hc => ?_) (fun hc => ?_)
  · obtain ⟨ad, v, hA, hv, ci⟩ := hr.num (Below.refl _ _) hB (show i < n by omega)
    cases hA
    refine Cd.skip ?_
    refine Post.then_ ?_
    refine Cd.seq ?_
    refine Cd.block ?_
    refine Cd.region ?_
    refine Seq.val (Runs.move rfl rfl) rfl rfl rfl ?_
    refine Seq.val (Runs.move rfl rfl) rfl rfl rfl ?_
    refine Seq.val (Runs.move rfl rfl) rfl rfl rfl ?_
    refine Seq.val (Runs.index1 rfl rfl rfl Try.underlying26 (by kernel_rfl) (j := i) rfl (by omega)) rfl rfl rfl ?_
    refine Seq.val (Runs.load1 rfl rfl Try.underlying2 rfl ci.val) rfl rfl rfl ?_
    refine Seq.val (Runs.min2 rfl rfl rfl) rfl rfl rfl ?_
    refine Seq.val (Runs.assign rfl rfl) rfl rfl rfl ?_
    refine Seq.nil ?_
    refine Post.weak (F' := [(0, _), (3, _), (4, _), (15, _)]) ⟨rfl, rfl, rfl, rfl, trivial⟩ ?_
    refine Post.block_normal ?_
    refine Post.then_ ?_
    refine Cd.region ?_
    refine Seq.val (Runs.move rfl rfl) rfl rfl rfl ?_
    refine Seq.val (Runs.addI rfl rfl rfl (by omega) (by omega)) rfl rfl rfl ?_
    refine Seq.val (Runs.assign rfl rfl) rfl rfl rfl ?_
    refine Seq.nil ?_
    refine Post.weak (F' := [(0, _), (3, _), (4, _), (15, _)]) ⟨rfl, rfl, rfl, rfl, trivial⟩ ?_
    have e2 : min (leastTo l i) v = leastTo l (i + 1) := by
      have e : leastTo l (i + 1) = min (leastTo l i) (l.getD i 0) := rfl
      rw [e, getD_of_get hv]
    rw [e2]
    exact Post.round (i + 1) ⟨rfl, rfl, rfl, trivial⟩ ⟨by omega, rfl⟩ (by omega)
  · obtain rfl : i = n := by omega
    refine Cd.exit ?_
    refine Post.then_exit ?_
    refine Post.round_exit ?_
    refine Post.block_exit ?_
    refine Post.then_ ?_
    refine Cd.seq ?_
    refine Cd.region ?_
    refine Seq.val (Runs.move rfl rfl) rfl rfl rfl ?_
    refine Seq.val (Runs.assign rfl rfl) rfl rfl rfl ?_
    refine Seq.nil ?_
    refine Post.weak (F' := [(0, _), (2, _), (3, _), (4, _), (15, _)]) ⟨rfl, rfl, rfl, rfl, rfl, trivial⟩ ?_
    refine Post.then_ ?_
    refine Cd.ret ?_
    refine Post.end1 rfl rfl (.inl rfl) ?_
    exact ⟨rfl, Grow.refl _⟩
end Go.Proofs.Ytpdeihienkbeeaa
