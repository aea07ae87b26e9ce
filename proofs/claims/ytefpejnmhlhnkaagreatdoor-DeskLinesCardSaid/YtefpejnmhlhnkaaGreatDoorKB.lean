/-
  What each kind of operation does, its operands being known. No condition but what each names.
-/
import Derived.Test.YtefpejnmhlhnkaaGreatDoorKA
namespace Go.Proofs.YtefpejnmhlhnkaaGreatDoor
open Go.RowKit

theorem wrapI {z : Int} (h0 : -9223372036854775808 ≤ z) (h1 : z ≤ 9223372036854775807) : IntKind.i64.wrap z = z := by rw [IntKind.wrap_i64]; omega
theorem wrapU {z : Int} (h0 : 0 ≤ z) (h1 : z < 18446744073709551616) : IntKind.u64.wrap z = z := wrap_u64_in z h0 h1
theorem wrapB {z : Int} (h0 : 0 ≤ z) (h1 : z < 256) : IntKind.u8.wrap z = z := by rw [IntKind.wrap_u8]; omega
theorem run_enter {P : Program} {f : FuncId} {fn : Func} {c : Code} (hf : P.funcs[f]? = some fn) (hname : (fn.name == "runtime.NumGoroutine") = false)
    (hb : fn.body = some c) (args : Array Value) (w : World) : (callFunc f args).run P w = .ok (.enter f args) w := by
  simp only [callFunc, program, Sem.run_bind, Sem.run, Result.andThen_ok, hf, hname, hb, Option.isNone_some, if_false, Bool.false_eq_true]
  rfl

def evL (E : Operand → Option Value) : List Operand → Option (List Value)
  | [] => some []
  | x :: r => match E x, evL E r with
    | some v, some vs => some (v :: vs)
    | _, _ => none
theorem evL_map {E : Operand → Option Value} {ρ : Operand → Value} (h : ∀ x u, E x = some u → ρ x = u) : ∀ {l : List Operand} {vs : List Value}, evL E l = some vs → l.map ρ = vs
  | [], vs, e => by simp [evL] at e; simp [e]
  | x :: r, vs, e => by
    unfold evL at e
    split at e
    · rename_i v vs' hx hr
      injection e with e
      subst e
      rw [List.map_cons, h _ _ hx, evL_map h hr]
    · cases e
def evP (E : Operand → Option Value) : List (Nat × Operand) → Option (List (Nat × Value))
  | [] => some []
  | (i, x) :: r => match E x, evP E r with
    | some v, some vs => some ((i, v) :: vs)
    | _, _ => none
theorem evP_map {E : Operand → Option Value} {ρ : Operand → Value} (h : ∀ x u, E x = some u → ρ x = u) : ∀ {l : List (Nat × Operand)} {vs : List (Nat × Value)}, evP E l = some vs → l.map (fun (i, x) => (i, ρ x)) = vs
  | [], vs, e => by simp [evP] at e; simp [e]
  | (i, x) :: r, vs, e => by
    unfold evP at e
    split at e
    · rename_i v vs' hx hr
      injection e with e
      subst e
      rw [List.map_cons, evP_map h hr]; simp only [h _ _ hx]
    · cases e

theorem run_equal_bool {P : Program} {T : TypeId} (hT : P.underlying T = some .bool) (a b : Bool) (w : World) : (Op.equal T (.bool a) (.bool b)).run P w = .ok (a == b) w := by
  have h : ∀ d : Nat, (Op.equalIn (d + 1) T (.bool a) (.bool b)).run P w = .ok (a == b) w := fun d => by simp [Op.equalIn, run_underlying hT]
  exact h 9999
theorem run_equal_sliceNil {P : Program} {T e : TypeId} (hT : P.underlying T = some (.slice e)) (A : Option Addr) (n c m c' : Nat) (w : World) : (Op.equal T (.slice A n c) (.slice none m c')).run P w = .ok A.isNone w := by
  have h : ∀ d : Nat, (Op.equalIn (d + 1) T (.slice A n c) (.slice none m c')).run P w = .ok A.isNone w := fun d => by cases A <;> simp [Op.equalIn, run_underlying hT]
  exact h 9999
theorem run_equal_ptrNil {P : Program} {T e : TypeId} (hT : P.underlying T = some (.pointer e)) (A : Option Addr) (w : World) : (Op.equal T (.pointer A) (.pointer none)).run P w = .ok A.isNone w := by
  have h : ∀ d : Nat, (Op.equalIn (d + 1) T (.pointer A) (.pointer none)).run P w = .ok A.isNone w := fun d => by cases A <;> simp [Op.equalIn, run_underlying hT]
  exact h 9999

section
variable {P : Program} {E : Operand → Option Value} {o : Oper} {w w' : World} {x y : Operand} {v : Value} {T T' : TypeId} {k : IntKind} {p q r : Int} {a b : Bool}

theorem Runs.move (ho : o.op = .move x) (hx : E x = some v) : Runs P E o w v w := fun ρ h => by unfold execOp; simp only [ho]; rw [h _ _ hx]; rfl
theorem Runs.assign (ho : o.op = .assign x) (hx : E x = some v) : Runs P E o w v w := fun ρ h => by unfold execOp; simp only [ho]; rw [h _ _ hx]; rfl
theorem Runs.pick {c x y : Operand} {u : Value} (ho : o.op = .pick c x y) (hc : E c = some (.bool a)) (hx : a = true → E x = some v) (hy : a = false → E y = some v) : Runs P E o w v w := fun ρ h => by
  unfold execOp; simp only [ho]; rw [h _ _ hc]
  cases a
  · rw [h _ _ (hy rfl)]; rfl
  · rw [h _ _ (hx rfl)]; rfl
theorem Runs.pickB {c x y : Operand} {a b d : Bool} (ho : o.op = .pick c x y) (hc : E c = some (.bool a)) (hx : E x = some (.bool b)) (hy : E y = some (.bool d)) : Runs P E o w (.bool (if a then b else d)) w := fun ρ h => by
  unfold execOp; simp only [ho]; rw [h _ _ hc, h _ _ hx, h _ _ hy]
  cases a <;> rfl
theorem Runs.pickT {c x y : Operand} (ho : o.op = .pick c x y) (hc : E c = some (.bool true)) (hx : E x = some v) : Runs P E o w v w := fun ρ h => by
  unfold execOp; simp only [ho]; rw [h _ _ hc, h _ _ hx]; rfl
theorem Runs.pickF {c x y : Operand} (ho : o.op = .pick c x y) (hc : E c = some (.bool false)) (hy : E y = some v) : Runs P E o w v w := fun ρ h => by
  unfold execOp; simp only [ho]; rw [h _ _ hc, h _ _ hy]; rfl

theorem Runs.cast {v' : Value} (h : Runs P E o w v w') (e : v = v') : Runs P E o w v' w' := e ▸ h
theorem Runs.isT {p : Prop} [Decidable p] (h : Runs P E o w (.bool (decide p)) w') (e : p) : Runs P E o w (.bool true) w' := h.cast (by rw [decide_eq_true e])
theorem Runs.isF {p : Prop} [Decidable p] (h : Runs P E o w (.bool (decide p)) w') (e : ¬ p) : Runs P E o w (.bool false) w' := h.cast (by rw [decide_eq_false e])
theorem Runs.bin {op : BinOp} {u u' : Value} (ho : o.op = .binOp op T x y T') (hx : E x = some u) (hy : E y = some u') (hg : (eqGuard op T x y u u').run P w = .ok () w) (hb : (binOp op T u u').run P w = .ok v w) : Runs P E o w v w := fun ρ h => by
  unfold execOp; simp only [ho]; rw [h _ _ hx, h _ _ hy]
  simp only [Sem.run_bind, hg, Result.andThen_ok, hb, Sem.run_pure]
theorem Runs.addW (ho : o.op = .binOp .add T x y T') (hx : E x = some (.int k p)) (hy : E y = some (.int k q)) (hr : k.wrap (p + q) = r) : Runs P E o w (.int k r) w := .bin ho hx hy rfl (by simp [binOp, Op.intArith, hr])
theorem Runs.subW (ho : o.op = .binOp .sub T x y T') (hx : E x = some (.int k p)) (hy : E y = some (.int k q)) (hr : k.wrap (p - q) = r) : Runs P E o w (.int k r) w := .bin ho hx hy rfl (by simp [binOp, Op.intArith, hr])
theorem Runs.mulW (ho : o.op = .binOp .mul T x y T') (hx : E x = some (.int k p)) (hy : E y = some (.int k q)) (hr : k.wrap (p * q) = r) : Runs P E o w (.int k r) w := .bin ho hx hy rfl (by simp [binOp, Op.intArith, hr])
theorem Runs.quoW (ho : o.op = .binOp .quo T x y T') (hx : E x = some (.int k p)) (hy : E y = some (.int k q)) (hq : q ≠ 0) (hr : k.wrap (p.tdiv q) = r) : Runs P E o w (.int k r) w := .bin ho hx hy rfl (by simp [binOp, Op.intDiv, hr, hq])
theorem Runs.remW (ho : o.op = .binOp .rem T x y T') (hx : E x = some (.int k p)) (hy : E y = some (.int k q)) (hq : q ≠ 0) (hr : p.tmod q = r) : Runs P E o w (.int k r) w := .bin ho hx hy rfl (by simp [binOp, Op.intDiv, hr, hq])
theorem Runs.shlW {k' : IntKind} (ho : o.op = .binOp .shl T x y T') (hx : E x = some (.int k p)) (hy : E y = some (.int k' q)) (hq : ¬ q < 0) (hr : k.wrap (p * 2 ^ (min q.toNat k.bits)) = r) : Runs P E o w (.int k r) w := .bin ho hx hy rfl (by simp [binOp, Op.shift, hr, hq])
theorem Runs.shrW {k' : IntKind} (ho : o.op = .binOp .shr T x y T') (hx : E x = some (.int k p)) (hy : E y = some (.int k' q)) (hq : ¬ q < 0) (hr : p.fdiv (2 ^ (min q.toNat k.bits)) = r) : Runs P E o w (.int k r) w := .bin ho hx hy rfl (by simp [binOp, Op.shift, hr, hq])
/-- The same within the bounds of an int. -/
theorem Runs.addI (ho : o.op = .binOp .add T x y T') (hx : E x = some (.int .i64 p)) (hy : E y = some (.int .i64 q)) (h0 : -9223372036854775808 ≤ p + q) (h1 : p + q ≤ 9223372036854775807) : Runs P E o w (.int .i64 (p + q)) w := .addW ho hx hy (wrapI h0 h1)
theorem Runs.subI (ho : o.op = .binOp .sub T x y T') (hx : E x = some (.int .i64 p)) (hy : E y = some (.int .i64 q)) (h0 : -9223372036854775808 ≤ p - q) (h1 : p - q ≤ 9223372036854775807) : Runs P E o w (.int .i64 (p - q)) w := .subW ho hx hy (wrapI h0 h1)
theorem Runs.mulI (ho : o.op = .binOp .mul T x y T') (hx : E x = some (.int .i64 p)) (hy : E y = some (.int .i64 q)) (h0 : -9223372036854775808 ≤ p * q) (h1 : p * q ≤ 9223372036854775807) : Runs P E o w (.int .i64 (p * q)) w := .mulW ho hx hy (wrapI h0 h1)
theorem Runs.addU (ho : o.op = .binOp .add T x y T') (hx : E x = some (.int .u64 p)) (hy : E y = some (.int .u64 q)) (h0 : 0 ≤ p + q) (h1 : p + q < 18446744073709551616) : Runs P E o w (.int .u64 (p + q)) w := .addW ho hx hy (wrapU h0 h1)
theorem Runs.subU (ho : o.op = .binOp .sub T x y T') (hx : E x = some (.int .u64 p)) (hy : E y = some (.int .u64 q)) (h0 : 0 ≤ p - q) (h1 : p - q < 18446744073709551616) : Runs P E o w (.int .u64 (p - q)) w := .subW ho hx hy (wrapU h0 h1)
theorem Runs.mulU (ho : o.op = .binOp .mul T x y T') (hx : E x = some (.int .u64 p)) (hy : E y = some (.int .u64 q)) (h0 : 0 ≤ p * q) (h1 : p * q < 18446744073709551616) : Runs P E o w (.int .u64 (p * q)) w := .mulW ho hx hy (wrapU h0 h1)
theorem quo_fits {p q : Int} (h0 : 0 ≤ p) (hq : 0 < q) : 0 ≤ p / q ∧ p / q ≤ p := ⟨Int.ediv_nonneg h0 (Int.le_of_lt hq), Int.ediv_le_self _ h0⟩
theorem Runs.quoI (ho : o.op = .binOp .quo T x y T') (hx : E x = some (.int .i64 p)) (hy : E y = some (.int .i64 q)) (h0 : 0 ≤ p) (h1 : p ≤ 9223372036854775807) (hq : 0 < q) : Runs P E o w (.int .i64 (p / q)) w :=
  .quoW ho hx hy (by omega) (by rw [Int.tdiv_eq_ediv_of_nonneg h0]; have := quo_fits h0 hq; exact wrapI (by omega) (by omega))
theorem Runs.quoU (ho : o.op = .binOp .quo T x y T') (hx : E x = some (.int .u64 p)) (hy : E y = some (.int .u64 q)) (h0 : 0 ≤ p) (h1 : p < 18446744073709551616) (hq : 0 < q) : Runs P E o w (.int .u64 (p / q)) w :=
  .quoW ho hx hy (by omega) (by rw [Int.tdiv_eq_ediv_of_nonneg h0]; have := quo_fits h0 hq; exact wrapU (by omega) (by omega))
theorem Runs.remN (ho : o.op = .binOp .rem T x y T') (hx : E x = some (.int k p)) (hy : E y = some (.int k q)) (h0 : 0 ≤ p) (hq : 0 < q) : Runs P E o w (.int k (p % q)) w :=
  .remW ho hx hy (by omega) (Int.tmod_eq_emod_of_nonneg h0)

/-- Shifts of numbers of Nat. -/
theorem Runs.shrL {a s : Nat} {k' : IntKind} (ho : o.op = .binOp .shr T x y T') (hx : E x = some (.int .u64 (a : Int))) (hy : E y = some (.int k' q)) (hq : q = (s : Int)) (hs : s ≤ 64) : Runs P E o w (.int .u64 ((a / 2 ^ s : Nat) : Int)) w := by
  subst hq
  refine .shrW ho hx hy (by omega) ?_
  have e : min (s : Int).toNat IntKind.u64.bits = s := by simp [IntKind.bits]; omega
  rw [e]
  show ((a : Int)).fdiv ((2 : Int) ^ s) = _
  rw [Int.fdiv_eq_ediv_of_nonneg _ (by exact Int.le_of_lt (Int.pow_pos (by omega)))]
  rw [Int.natCast_ediv, Int.natCast_pow]; rfl
theorem Runs.bitsU {op : BinOp} {a b r : Nat} (ho : o.op = .binOp op T x y T') (hx : E x = some (.int .u64 (a : Int))) (hy : E y = some (.int .u64 (b : Int))) (ha : a < 18446744073709551616) (hb : b < 18446744073709551616)
    (hop : (op = .and ∧ r = a &&& b) ∨ (op = .or ∧ r = a ||| b) ∨ (op = .xor ∧ r = a ^^^ b)) : Runs P E o w (.int .u64 (r : Int)) w := by
  have e1 : (BitVec.ofInt IntKind.u64.bits (a : Int)).toNat = a := by simp [IntKind.bits]; omega
  have e2 : (BitVec.ofInt IntKind.u64.bits (b : Int)).toNat = b := by simp [IntKind.bits]; omega
  have hr : r < 18446744073709551616 := by
    rcases hop with ⟨-, rfl⟩ | ⟨-, rfl⟩ | ⟨-, rfl⟩
    · exact Nat.lt_of_le_of_lt Nat.and_le_left ha
    · exact Nat.or_lt_two_pow (n := 64) ha hb
    · exact Nat.xor_lt_two_pow (n := 64) ha hb
  refine .bin ho hx hy ?_ ?_
  · rcases hop with ⟨rfl, -⟩ | ⟨rfl, -⟩ | ⟨rfl, -⟩ <;> rfl
  · rcases hop with ⟨rfl, hr'⟩ | ⟨rfl, hr'⟩ | ⟨rfl, hr'⟩
    · show (Op.intBits .and .u64 a b).run P w = _
      simp only [Op.intBits, BitVec.toNat_and, e1, e2, ← hr', wrapU (Int.natCast_nonneg r) (Int.ofNat_lt.2 hr)]; rfl
    · show (Op.intBits .or .u64 a b).run P w = _
      simp only [Op.intBits, BitVec.toNat_or, e1, e2, ← hr', wrapU (Int.natCast_nonneg r) (Int.ofNat_lt.2 hr)]; rfl
    · show (Op.intBits .xor .u64 a b).run P w = _
      simp only [Op.intBits, BitVec.toNat_xor, e1, e2, ← hr', wrapU (Int.natCast_nonneg r) (Int.ofNat_lt.2 hr)]; rfl
/-- A mask of the lowest bits. -/
theorem Runs.maskU {a m : Nat} (s : Nat) (ho : o.op = .binOp .and T x y T') (hx : E x = some (.int .u64 (a : Int))) (hy : E y = some (.int .u64 (m : Int))) (hm : m = 2 ^ s - 1) (ha : a < 18446744073709551616) (hb : m < 18446744073709551616) : Runs P E o w (.int .u64 ((a % 2 ^ s : Nat) : Int)) w :=
  .bitsU ho hx hy ha hb (.inl ⟨rfl, by rw [hm, Nat.and_two_pow_sub_one_eq_mod]⟩)
/-- Two numbers whose bits don't meet. -/
theorem Runs.orU {a b h s : Nat} (ho : o.op = .binOp .or T x y T') (hx : E x = some (.int .u64 (a : Int))) (hy : E y = some (.int .u64 (b : Int))) (hah : a = h * 2 ^ s) (hbs : b < 2 ^ s) (ha : a < 18446744073709551616) (hb : b < 18446744073709551616) : Runs P E o w (.int .u64 ((a + b : Nat) : Int)) w :=
  .bitsU ho hx hy ha hb (.inr (.inl ⟨rfl, by rw [hah, Nat.mul_comm, ← Nat.two_pow_add_eq_or_of_lt hbs]⟩))
theorem Runs.shlM {a s : Nat} {k' : IntKind} (ho : o.op = .binOp .shl T x y T') (hx : E x = some (.int .u64 (a : Int))) (hy : E y = some (.int k' q)) (hq : q = (s : Int)) (hs : s ≤ 64) : Runs P E o w (.int .u64 ((a * 2 ^ s % 18446744073709551616 : Nat) : Int)) w := by
  subst hq
  refine .shlW ho hx hy (by omega) ?_
  have e : min (s : Int).toNat IntKind.u64.bits = s := by simp [IntKind.bits]; omega
  rw [e]
  have e2 : (a : Int) * 2 ^ s = ((a * 2 ^ s : Nat) : Int) := by rw [Int.natCast_mul, Int.natCast_pow]; rfl
  rw [e2, wrap_u64]
  omega
theorem Runs.shlL {a s : Nat} {k' : IntKind} (ho : o.op = .binOp .shl T x y T') (hx : E x = some (.int .u64 (a : Int))) (hy : E y = some (.int k' q)) (hq : q = (s : Int)) (hs : s < 64) (hlt : a * 2 ^ s < 18446744073709551616) : Runs P E o w (.int .u64 ((a * 2 ^ s : Nat) : Int)) w := by
  subst hq
  refine .shlW ho hx hy (by omega) ?_
  have e : min (s : Int).toNat IntKind.u64.bits = s := by simp [IntKind.bits]; omega
  rw [e]
  have e2 : (a : Int) * 2 ^ s = ((a * 2 ^ s : Nat) : Int) := by rw [Int.natCast_mul, Int.natCast_pow]; rfl
  rw [e2]
  exact wrapU (by omega) (by omega)
/-- By a constant, a number of Nat. -/
theorem Runs.remL {a : Nat} (m : Nat) (ho : o.op = .binOp .rem T x y T') (hx : E x = some (.int k (a : Int))) (hy : E y = some (.int k q)) (hq : q = (m : Int)) (hm : 0 < m) : Runs P E o w (.int k ((a % m : Nat) : Int)) w := by
  subst hq
  rw [Int.natCast_emod]
  exact Runs.remN ho hx hy (by omega) (by omega)
theorem Runs.quoLU {a : Nat} (m : Nat) (ho : o.op = .binOp .quo T x y T') (hx : E x = some (.int .u64 (a : Int))) (hy : E y = some (.int .u64 q)) (hq : q = (m : Int)) (hm : 0 < m) (ha : a < 18446744073709551616) : Runs P E o w (.int .u64 ((a / m : Nat) : Int)) w := by
  subst hq
  rw [Int.natCast_ediv]
  exact Runs.quoU ho hx hy (by omega) (by omega) (by omega)
theorem Runs.quoLI {a : Nat} (m : Nat) (ho : o.op = .binOp .quo T x y T') (hx : E x = some (.int .i64 (a : Int))) (hy : E y = some (.int .i64 q)) (hq : q = (m : Int)) (hm : 0 < m) (ha : a ≤ 9223372036854775807) : Runs P E o w (.int .i64 ((a / m : Nat) : Int)) w := by
  subst hq
  rw [Int.natCast_ediv]
  exact Runs.quoI ho hx hy (by omega) (by omega) (by omega)
theorem Runs.quoNU {a b : Nat} (ho : o.op = .binOp .quo T x y T') (hx : E x = some (.int .u64 (a : Int))) (hy : E y = some (.int .u64 (b : Int))) (hb : 0 < b) (ha : a < 18446744073709551616) : Runs P E o w (.int .u64 ((a / b : Nat) : Int)) w := by
  rw [Int.natCast_ediv]
  exact Runs.quoU ho hx hy (by omega) (by omega) (by omega)
theorem Runs.remNU {a b : Nat} (ho : o.op = .binOp .rem T x y T') (hx : E x = some (.int .u64 (a : Int))) (hy : E y = some (.int .u64 (b : Int))) (hb : 0 < b) : Runs P E o w (.int .u64 ((a % b : Nat) : Int)) w := by
  rw [Int.natCast_emod]
  exact Runs.remN ho hx hy (by omega) (by omega)
theorem Runs.subLU {a b : Nat} (ho : o.op = .binOp .sub T x y T') (hx : E x = some (.int .u64 (a : Int))) (hy : E y = some (.int .u64 (b : Int))) (h : b ≤ a) (ha : a < 18446744073709551616) : Runs P E o w (.int .u64 ((a - b : Nat) : Int)) w := by
  rw [Int.ofNat_sub h]
  exact Runs.subU ho hx hy (by omega) (by omega)
theorem Runs.mulMU {a b : Nat} (ho : o.op = .binOp .mul T x y T') (hx : E x = some (.int .u64 (a : Int))) (hy : E y = some (.int .u64 (b : Int))) : Runs P E o w (.int .u64 ((a * b % 18446744073709551616 : Nat) : Int)) w :=
  .mulW ho hx hy (by rw [← Int.natCast_mul, wrap_u64]; omega)
theorem Runs.addMU {a b : Nat} (ho : o.op = .binOp .add T x y T') (hx : E x = some (.int .u64 (a : Int))) (hy : E y = some (.int .u64 (b : Int))) : Runs P E o w (.int .u64 (((a + b) % 18446744073709551616 : Nat) : Int)) w :=
  .addW ho hx hy (by rw [wrap_u64]; omega)
theorem Runs.subMU {a b : Nat} (ho : o.op = .binOp .sub T x y T') (hx : E x = some (.int .u64 (a : Int))) (hy : E y = some (.int .u64 (b : Int))) (hb : b ≤ 18446744073709551616) : Runs P E o w (.int .u64 (((a + 18446744073709551616 - b) % 18446744073709551616 : Nat) : Int)) w :=
  .subW ho hx hy (by rw [wrap_u64]; omega)
theorem Runs.addLU {a b : Nat} (ho : o.op = .binOp .add T x y T') (hx : E x = some (.int .u64 (a : Int))) (hy : E y = some (.int .u64 (b : Int))) (h : a + b < 18446744073709551616) : Runs P E o w (.int .u64 ((a + b : Nat) : Int)) w := by
  rw [Int.natCast_add]
  exact Runs.addU ho hx hy (by omega) (by omega)
theorem Runs.mulLU {a b : Nat} (ho : o.op = .binOp .mul T x y T') (hx : E x = some (.int .u64 (a : Int))) (hy : E y = some (.int .u64 (b : Int))) (h : a * b < 18446744073709551616) : Runs P E o w (.int .u64 ((a * b : Nat) : Int)) w := by
  refine .mulW ho hx hy ?_
  rw [← Int.natCast_mul]
  exact wrapU (by omega) (by omega)

theorem Runs.lss (ho : o.op = .binOp .lss T x y T') (hx : E x = some (.int k p)) (hy : E y = some (.int k q)) : Runs P E o w (.bool (decide (p < q))) w := .bin ho hx hy rfl (by simp [binOp, Op.intCmp])
theorem Runs.leq (ho : o.op = .binOp .leq T x y T') (hx : E x = some (.int k p)) (hy : E y = some (.int k q)) : Runs P E o w (.bool (decide (p ≤ q))) w := .bin ho hx hy rfl (by simp [binOp, Op.intCmp])
theorem Runs.gtr (ho : o.op = .binOp .gtr T x y T') (hx : E x = some (.int k p)) (hy : E y = some (.int k q)) : Runs P E o w (.bool (decide (q < p))) w := .bin ho hx hy rfl (by simp [binOp, Op.intCmp])
theorem Runs.geq (ho : o.op = .binOp .geq T x y T') (hx : E x = some (.int k p)) (hy : E y = some (.int k q)) : Runs P E o w (.bool (decide (q ≤ p))) w := .bin ho hx hy rfl (by simp [binOp, Op.intCmp])
theorem Runs.eqlI (ho : o.op = .binOp .eql T x y T') (hx : E x = some (.int k p)) (hy : E y = some (.int k q)) : Runs P E o w (.bool (decide (p = q))) w := .bin ho hx hy rfl (by simp [binOp, Op.intCmp]; rfl)
theorem Runs.neqI (ho : o.op = .binOp .neq T x y T') (hx : E x = some (.int k p)) (hy : E y = some (.int k q)) : Runs P E o w (.bool (decide (p ≠ q))) w := .bin ho hx hy rfl (by
  simp [binOp, Op.intCmp]
  by_cases h : p = q <;> simp [h])
theorem Runs.eqlB (ho : o.op = .binOp .eql T x y T') (hx : E x = some (.bool a)) (hy : E y = some (.bool b)) (hT : P.underlying T = some .bool) : Runs P E o w (.bool (decide (a = b))) w :=
  .bin ho hx hy rfl (by simp only [binOp, Sem.run_bind, run_equal_bool hT, Result.andThen_ok]; cases a <;> cases b <;> rfl)
theorem Runs.neqB (ho : o.op = .binOp .neq T x y T') (hx : E x = some (.bool a)) (hy : E y = some (.bool b)) (hT : P.underlying T = some .bool) : Runs P E o w (.bool (decide (a ≠ b))) w :=
  .bin ho hx hy rfl (by simp only [binOp, Sem.run_bind, run_equal_bool hT, Result.andThen_ok]; cases a <;> cases b <;> rfl)
theorem Runs.eqlS {s t : ByteArray} (ho : o.op = .binOp .eql T x y T') (hx : E x = some (.string s)) (hy : E y = some (.string t)) : Runs P E o w (.bool (s.toList == t.toList)) w := .bin ho hx hy rfl (by simp [binOp, Op.stringOp])
theorem Runs.neqS {s t : ByteArray} (ho : o.op = .binOp .neq T x y T') (hx : E x = some (.string s)) (hy : E y = some (.string t)) : Runs P E o w (.bool (!(s.toList == t.toList))) w := .bin ho hx hy rfl (by simp [binOp, Op.stringOp])
theorem Runs.lssS {s t : ByteArray} (ho : o.op = .binOp .lss T x y T') (hx : E x = some (.string s)) (hy : E y = some (.string t)) : Runs P E o w (.bool (Op.bytesLess s.toList t.toList)) w := .bin ho hx hy rfl (by simp [binOp, Op.stringOp])
theorem Runs.leqS {s t : ByteArray} (ho : o.op = .binOp .leq T x y T') (hx : E x = some (.string s)) (hy : E y = some (.string t)) : Runs P E o w (.bool (Op.bytesLess s.toList t.toList || s.toList == t.toList)) w := .bin ho hx hy rfl (by simp [binOp, Op.stringOp])
theorem Runs.gtrS {s t : ByteArray} (ho : o.op = .binOp .gtr T x y T') (hx : E x = some (.string s)) (hy : E y = some (.string t)) : Runs P E o w (.bool !(Op.bytesLess s.toList t.toList || s.toList == t.toList)) w := .bin ho hx hy rfl (by simp [binOp, Op.stringOp])
theorem Runs.geqS {s t : ByteArray} (ho : o.op = .binOp .geq T x y T') (hx : E x = some (.string s)) (hy : E y = some (.string t)) : Runs P E o w (.bool !(Op.bytesLess s.toList t.toList)) w := .bin ho hx hy rfl (by simp [binOp, Op.stringOp])
theorem Runs.addS {s t : ByteArray} (ho : o.op = .binOp .add T x y T') (hx : E x = some (.string s)) (hy : E y = some (.string t)) (hs : s.size + t.size ≤ 9223372036854775807) : Runs P E o w (.string (s ++ t)) w :=
  .bin ho hx hy rfl (by simp only [binOp, Op.stringOp]; rw [if_neg (by simp [IntKind.max, IntKind.bits, IntKind.signed]; omega)]; rfl)
theorem Runs.eqlN {n c c' m : Nat} {A : Option Addr} (ho : o.op = .binOp .eql T x y T') (hx : E x = some (.slice A n c)) (hy : E y = some (.slice none m c')) {e : TypeId} (hT : P.underlying T = some (.slice e)) : Runs P E o w (.bool A.isNone) w :=
  .bin ho hx hy rfl (by simp only [binOp, Sem.run_bind, run_equal_sliceNil hT, Result.andThen_ok]; rfl)
theorem Runs.neqN {n c c' m : Nat} {A : Option Addr} (ho : o.op = .binOp .neq T x y T') (hx : E x = some (.slice A n c)) (hy : E y = some (.slice none m c')) {e : TypeId} (hT : P.underlying T = some (.slice e)) : Runs P E o w (.bool A.isSome) w :=
  .bin ho hx hy rfl (by simp only [binOp, Sem.run_bind, run_equal_sliceNil hT, Result.andThen_ok]; cases A <;> rfl)
theorem Runs.eqlP {A : Option Addr} (ho : o.op = .binOp .eql T x y T') (hx : E x = some (.pointer A)) (hy : E y = some (.pointer none)) {e : TypeId} (hT : P.underlying T = some (.pointer e)) : Runs P E o w (.bool A.isNone) w :=
  .bin ho hx hy rfl (by simp only [binOp, Sem.run_bind, run_equal_ptrNil hT, Result.andThen_ok]; rfl)
theorem Runs.neqP {A : Option Addr} (ho : o.op = .binOp .neq T x y T') (hx : E x = some (.pointer A)) (hy : E y = some (.pointer none)) {e : TypeId} (hT : P.underlying T = some (.pointer e)) : Runs P E o w (.bool A.isSome) w :=
  .bin ho hx hy rfl (by simp only [binOp, Sem.run_bind, run_equal_ptrNil hT, Result.andThen_ok]; cases A <;> rfl)

theorem Runs.not (ho : o.op = .unOp .not T x) (hx : E x = some (.bool a)) : Runs P E o w (.bool !a) w := fun ρ h => by unfold execOp; simp only [ho]; rw [h _ _ hx]; simp [Op.unary]
theorem Runs.neg (ho : o.op = .unOp .neg T x) (hx : E x = some (.int k p)) (hr : k.wrap (0 - p) = r) : Runs P E o w (.int k r) w := fun ρ h => by unfold execOp; simp only [ho]; rw [h _ _ hx]; simp only [Op.unary, Op.intArith, hr]; rfl
theorem Runs.convI {k' : IntKind} {d : TypeDesc} (ho : o.op = .convert T T' x) (hx : E x = some (.int k p)) (hS : P.underlying T = some d) (hT : P.underlying T' = some (.int k')) (hr : k'.wrap p = r) : Runs P E o w (.int k' r) w := fun ρ h => by
  unfold execOp; simp only [ho]; rw [h _ _ hx]; simp [convert, run_underlying hS, run_underlying hT, Conv.intToInt, hr]
theorem Runs.of_call {c : Call} {bi : Builtin} {vs : List Value} (ho : o.op = .call c) (hc : c.callee = .builtin bi) (hx : evL E c.args.toList = some vs)
    (hb : ∀ cs, (builtin bi c.argTypes o.type cs vs.toArray).run P w = .ok (.value v) w') : Runs P E o w v w' := fun ρ h => by
  have hargs : c.args.map ρ = vs.toArray := by
    apply Array.ext'
    rw [Array.toList_map, evL_map h hx]
  unfold execOp
  simp only [ho, resolve, hc, hargs, Sem.run_bind, Sem.run_pure, Result.andThen_ok, invoke]
  exact hb _
theorem Runs.len {t : TypeId} {A : Option Addr} {n c : Nat} (ho : o.op = .call { callee := .builtin .len, args := #[x], argTypes := #[t] }) (hx : E x = some (.slice A n c)) {e : TypeId} (hT : P.underlying t = some (.slice e)) : Runs P E o w (.int .i64 (n : Int)) w :=
  .of_call ho rfl (vs := [.slice A n c]) (by simp only [evL, hx]) (fun cs => by simp [builtin, Builtin.len_, run_underlying hT, goInt])
theorem Runs.lenS {t : TypeId} {s : ByteArray} (ho : o.op = .call { callee := .builtin .len, args := #[x], argTypes := #[t] }) (hx : E x = some (.string s)) (hT : P.underlying t = some .string) : Runs P E o w (.int .i64 (s.size : Int)) w :=
  .of_call ho rfl (vs := [.string s]) (by simp only [evL, hx]) (fun cs => by simp [builtin, Builtin.len_, run_underlying hT, goInt])
theorem Runs.cap {t : TypeId} {A : Option Addr} {n c : Nat} (ho : o.op = .call { callee := .builtin .cap, args := #[x], argTypes := #[t] }) (hx : E x = some (.slice A n c)) {e : TypeId} (hT : P.underlying t = some (.slice e)) : Runs P E o w (.int .i64 (c : Int)) w :=
  .of_call ho rfl (vs := [.slice A n c]) (by simp only [evL, hx]) (fun cs => by simp [builtin, Builtin.cap_, run_underlying hT, goInt])
theorem Runs.min2 {ts : Array TypeId} (ho : o.op = .call { callee := .builtin .min, args := #[x, y], argTypes := ts }) (hx : E x = some (.int k p)) (hy : E y = some (.int k q)) : Runs P E o w (.int k (min p q)) w :=
  .of_call ho rfl (vs := [.int k p, .int k q]) (by simp only [evL, hx, hy]) (fun cs => by
    have : (if q < p then q else p) = min p q := by omega
    simp [builtin, Builtin.min_, Builtin.min2, this])
theorem Runs.max2 {ts : Array TypeId} (ho : o.op = .call { callee := .builtin .max, args := #[x, y], argTypes := ts }) (hx : E x = some (.int k p)) (hy : E y = some (.int k q)) : Runs P E o w (.int k (max p q)) w :=
  .of_call ho rfl (vs := [.int k p, .int k q]) (by simp only [evL, hx, hy]) (fun cs => by
    have : (if p < q then q else p) = max p q := by omega
    simp [builtin, Builtin.max_, Builtin.max2, this])

/-! memory -/
theorem Runs.load1 {ad : Addr} {d : TypeDesc} (ho : o.op = .load T x) (hx : E x = some (.pointer (some ad))) (hT : P.underlying T = some d) (hd : (match d with | .struct _ | .array _ _ => true | _ => false) = false) (hc : w.cell? ad = some v) : Runs P E o w v w := fun ρ h => by
  unfold execOp; simp only [ho]; rw [h _ _ hx]
  cases d <;> first | (simp at hd; done) | (simp [Instr.loadAt, Instr.sureAddr, loadVar, isAgg, run_underlying hT, hc])
theorem Runs.loadN {ad : Addr} {d : TypeDesc} {i : TypeInfo} {cs : List Value} (ho : o.op = .load T x) (hx : E x = some (.pointer (some ad))) (hT : P.underlying T = some d) (hd : (match d with | .struct _ | .array _ _ => true | _ => false) = true) (hi : P.info? T = some i) (hs : i.size = cs.length)
    (hc : ∀ j v, cs[j]? = some v → w.cell? (ad.add j) = some v) : Runs P E o w (.agg cs.toArray) w := fun ρ h => by
  unfold execOp; simp only [ho]; rw [h _ _ hx]
  simp only [Instr.loadAt, Instr.sureAddr, Sem.run_bind, Sem.run_pure, Result.andThen_ok, run_loadVar_cells w T d i ad cs hT hd hi hs hc]
theorem Runs.alloc_ {z : Value} (ho : o.op = .alloc T) (hz : ∀ w, (zeroValue T).run P w = .ok z w) : Runs P E o w (.pointer (some ⟨w.heap.size, 0, none⟩)) (w.alloc (.cells z.cells T)) := fun ρ h => by
  unfold execOp; simp only [ho, Instr.alloc, Sem.run_bind, hz, Result.andThen_ok]; rfl
theorem Runs.box_ (ho : o.op = .box T x) (hx : E x = some v) : Runs P E o w (.pointer (some ⟨w.heap.size, 0, none⟩)) (w.alloc (.cells v.cells T)) := fun ρ h => by
  unfold execOp; simp only [ho]; rw [h _ _ hx]; rfl
theorem Runs.build {ps : Array (Nat × Operand)} {vs : List (Nat × Value)} (ho : o.op = .build T ps) (hx : evP E ps.toList = some vs) (hb : (Instr.build T vs.toArray).run P w = .ok v w) : Runs P E o w v w := fun ρ h => by
  have hargs : ps.map (fun (i, x) => (i, ρ x)) = vs.toArray := by
    apply Array.ext'
    rw [Array.toList_map, evP_map h hx]
  unfold execOp; simp only [ho, hargs, Sem.run_bind, hb, Result.andThen_ok]; rfl
theorem Runs.buildSlice {ps : Array (Nat × Operand)} {n : Nat} {vs : List (Nat × Value)} (ho : o.op = .buildSlice T n ps) (hx : evP E ps.toList = some vs) (hb : (Instr.buildSlice T n vs.toArray).run P w = .ok v w') : Runs P E o w v w' := fun ρ h => by
  have hargs : ps.map (fun (i, x) => (i, ρ x)) = vs.toArray := by
    apply Array.ext'
    rw [Array.toList_map, evP_map h hx]
  unfold execOp; simp only [ho, hargs, Sem.run_bind, hb, Result.andThen_ok]; rfl
theorem Runs.fieldAddr {i : Nat} {u : Value} (ho : o.op = .fieldAddr T x i) (hx : E x = some u) (hb : (Instr.fieldAt T u i).run P w = .ok v w) : Runs P E o w v w := fun ρ h => by
  unfold execOp; simp only [ho]; rw [h _ _ hx]; simp only [Sem.run_bind, hb, Result.andThen_ok]; rfl
theorem Runs.field {i : Nat} {u : Value} (ho : o.op = .field T x i) (hx : E x = some u) (hb : (Instr.field T u i).run P w = .ok v w) : Runs P E o w v w := fun ρ h => by
  unfold execOp; simp only [ho]; rw [h _ _ hx]; simp only [Sem.run_bind, hb, Result.andThen_ok]; rfl
theorem Runs.indexAddr {ad : Addr} {j n c e : Nat} {i : TypeInfo} (ho : o.op = .indexAddr T x y) (hx : E x = some (.slice (some ad) n c)) (hy : E y = some (.int k p)) (hT : P.underlying T = some (.slice e)) (hi : P.info? e = some i) (hp : p = (j : Int)) (hlt : j < n) :
    Runs P E o w (.pointer (some (ad.add (j * i.size)))) w := fun ρ h => by
  subst hp
  unfold execOp; simp only [ho]; rw [h _ _ hx, h _ _ hy]
  simp [Instr.indexAt, run_underlying hT, asIntOf, sizeOf, typeInfo, hi, hlt]
theorem Runs.indexS {s : ByteArray} {j : Nat} {c : UInt8} (ho : o.op = .index T x y) (hx : E x = some (.string s)) (hy : E y = some (.int k p)) (hT : P.underlying T = some .string) (hp : p = (j : Int)) (hlt : s[j]? = some c) : Runs P E o w (.int .u8 (c.toNat : Int)) w := fun ρ h => by
  subst hp
  unfold execOp; simp only [ho]; rw [h _ _ hx, h _ _ hy]
  simp [Instr.index, run_underlying hT, asIntOf, hlt]
theorem Runs.extract {i : Nat} {vs : Array Value} (ho : o.op = .extract x i) (hx : E x = some (.tuple vs)) (hv : vs[i]? = some v) : Runs P E o w v w := fun ρ h => by
  unfold execOp; simp only [ho]; rw [h _ _ hx]; simp [Instr.extract, hv]
theorem Runs.makeFunc {fn : Fn} {a b : Array Operand} {us bs : List Value} (ho : o.op = .makeFunc fn a b) (ha : evL E a.toList = some us) (hb : evL E b.toList = some bs) (hm : (Instr.makeFunc fn us.toArray bs.toArray).run P w = .ok v w) : Runs P E o w v w := fun ρ h => by
  have h1 : a.map ρ = us.toArray := by apply Array.ext'; rw [Array.toList_map, evL_map h ha]
  have h2 : b.map ρ = bs.toArray := by apply Array.ext'; rw [Array.toList_map, evL_map h hb]
  unfold execOp; simp only [ho, h1, h2, Sem.run_bind, hm, Result.andThen_ok]; rfl
theorem RunsU.store1 {ad : Addr} {u : Value} {i : TypeInfo} (ho : o.op = .store T x y) (hx : E x = some (.pointer (some ad))) (hy : E y = some v) (hi : P.info? T = some i) (hs : i.size = 1) (h1 : v.cells = #[v]) (ho1 : v.oneCell' = true) (hc : w.cell? ad = some u) (hf : w.frozen? ad = false) :
    RunsU P E o w (w.setCell ad v) := fun ρ h => by
  unfold execOp; simp only [ho]; rw [h _ _ hx, h _ _ hy]
  have hst : (storeCells ad [v]).run P w = .ok () (w.setCell ad v) := by
    have hadd : ad.add 0 = ad := rfl
    cases v <;> first | (simp [Value.oneCell'] at ho1; done) | (simp only [storeCells, store, Sem.run_bind, hadd]; simp [Sem.run, hc, hf])
  have h2 : (Instr.storeAt T (.pointer (some ad)) v).run P w = .ok () (w.setCell ad v) := by
    simp only [Instr.storeAt, Instr.sureAddr, storeVar, sizeOf, typeInfo, Sem.run_bind, Sem.run_pure, Result.andThen_ok, h1]
    simp [hi, hs, hst]
  simp only [Sem.run_bind, h2, Result.andThen_ok]; rfl
theorem Enters.func {f : FuncId} {args : Array Operand} {ts : Array TypeId} {vs : List Value} (ho : o.op = .call { callee := .value (.func f), args := args, argTypes := ts }) (hf : E (.func f) = some (.func (.func f) #[] #[])) (hx : evL E args.toList = some vs)
    (he : ∀ args w, (callFunc f args).run P w = .ok (.enter f args) w) : Enters P E o w f vs.toArray := fun ρ h => by
  have hargs : args.map ρ = vs.toArray := by
    apply Array.ext'
    rw [Array.toList_map, evL_map h hx]
  unfold execOp
  simp only [ho, resolve, h _ _ hf, Deferred.ofValue, hargs, Sem.run_bind, Sem.run_pure, Result.andThen_ok, invoke]
  simp [he]
theorem Enters.value {f : FuncId} {args : Array Operand} {ts : Array TypeId} {vs : List Value} {first cap : List Value} (ho : o.op = .call { callee := .value x, args := args, argTypes := ts }) (hf : E x = some (.func (.func f) first.toArray cap.toArray)) (hx : evL E args.toList = some vs)
    (he : ∀ args w, (callFunc f args).run P w = .ok (.enter f args) w) : Enters P E o w f (first ++ vs ++ cap).toArray := fun ρ h => by
  have hargs : args.map ρ = vs.toArray := by
    apply Array.ext'
    rw [Array.toList_map, evL_map h hx]
  unfold execOp
  simp only [ho, resolve, h _ _ hf, Deferred.ofValue, hargs, Sem.run_bind, Sem.run_pure, Result.andThen_ok, invoke]
  simp [he]
end
end Go.Proofs.YtefpejnmhlhnkaaGreatDoor
