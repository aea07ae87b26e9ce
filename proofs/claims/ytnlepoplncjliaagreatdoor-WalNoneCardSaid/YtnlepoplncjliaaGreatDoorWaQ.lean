/-
  crc: sums. Condition: the table stands as it is laid; the lengths are within reach.
-/
import Derived.Test.YtnlepoplncjliaaGreatDoorWaO
namespace Go.Proofs.YtnlepoplncjliaaGreatDoor
open Go.RowKit

def nibs : List Nat := [0, 274646895, 549293790, 820201905, 1098587580, 1361435347, 1640403810, 1905808397, 2197175160, 2460548119, 2722870694, 2987750089, 3280807620, 3553878443, 3811616794, 4084100981]
theorem nibs_lt : ∀ i, nibs.getD i 0 < 4294967296 := fun i => by
  by_cases h : i < 16
  · have : ∀ j, j < 16 → nibs.getD j 0 < 4294967296 := by decide
    exact this i h
  · have : nibs.getD i 0 = 0 := by rw [List.getD_eq_getElem?_getD, List.getElem?_eq_none (by simp [nibs]; omega)]; rfl
    omega
/-- Four bits more. -/
def stepN (r : Nat) : Nat := (r / 16) ^^^ (nibs.getD (r % 16) 0)
def crcB (r b : Nat) : Nat := stepN (stepN (r ^^^ b))
def regN (r : Nat) (s : List Nat) : Nat := s.foldl crcB r
def moreN (sum : Nat) (s : List Nat) : Nat := 4294967295 - regN (4294967295 - sum) s
theorem xor_lt32 {a b : Nat} (ha : a < 4294967296) (hb : b < 4294967296) : a ^^^ b < 4294967296 := Nat.xor_lt_two_pow (n := 32) ha hb
theorem stepN_lt {r : Nat} (h : r < 4294967296) : stepN r < 4294967296 := xor_lt32 (by omega) (nibs_lt _)
theorem crcB_lt {r b : Nat} (h : r < 4294967296) (hb : b < 256) : crcB r b < 4294967296 := stepN_lt (stepN_lt (xor_lt32 h (by omega)))
theorem regN_lt : ∀ {s : List Nat} {r : Nat}, r < 4294967296 → Byt s → regN r s < 4294967296
  | [], _, h, _ => h
  | b :: s, r, h, hs => regN_lt (s := s) (crcB_lt h (hs b List.mem_cons_self)) hs.tail
/-- The table, as it is laid. -/
structure Nib (w : World) : Prop where
  cell : ∀ i, i < 16 → w.cell? ⟨3, i, none⟩ = some (.int .u32 ((nibs.getD i 0 : Nat) : Int))
theorem Nib.step {w w' : World} (h : Nib w) (hb : Below w.heap.size w w') : Nib w' := ⟨fun i hi => cell_grow (h.cell i hi) hb⟩
section
variable {P : Program} {E : Operand → Option Value} {o : Oper} {w : World} {x y : Operand} {T T' : TypeId}
theorem Runs.indexArr {k : IntKind} {g j n e : Nat} {p : Int} (ho : o.op = .indexAddr T x y) (hx : E x = some (.pointer (some ⟨g, 0, none⟩))) (hy : E y = some (.int k p)) (hT : P.underlying T = some (.array n e)) (hs : sizeIs P e 1 = true) (hp : p = (j : Int)) (hlt : j < n) : Runs P E o w (.pointer (some ⟨g, j, none⟩)) w := fun ρ hρ => by
  obtain ⟨i, hi, hsz⟩ := sizeIs_spec hs
  subst hp
  have e2 : (⟨g, 0, none⟩ : Addr).add j = ⟨g, j, none⟩ := by unfold Addr.add; split <;> simp_all
  unfold execOp
  simp only [ho]; rw [hρ _ _ hx, hρ _ _ hy]
  have h1 : (0 : Int) ≤ (j : Int) ∧ (j : Int) < (n : Int) := by omega
  simp [Instr.indexAt, asIntOf, run_underlying hT, Instr.sureAddr, Result.andThen_ok, sizeOf, typeInfo, hi, hsz, hlt, e2]
theorem bv32 {a : Nat} (h : a < 4294967296) : (BitVec.ofInt IntKind.u32.bits (a : Int)).toNat = a := by simp [IntKind.bits]; omega
theorem Runs.xor32 {a b : Nat} (ho : o.op = .binOp .xor T x y T') (hx : E x = some (.int .u32 (a : Int))) (hy : E y = some (.int .u32 (b : Int))) (ha : a < 4294967296) (hb : b < 4294967296) : Runs P E o w (.int .u32 ((a ^^^ b : Nat) : Int)) w := by
  refine .bin ho hx hy rfl ?_
  show (Op.intBits .xor .u32 a b).run P w = _
  simp only [Op.intBits, BitVec.toNat_xor, bv32 ha, bv32 hb, u32_id (xor_lt32 ha hb)]; rfl
theorem Runs.and15 {a : Nat} (ho : o.op = .binOp .and T x y T') (hx : E x = some (.int .u32 (a : Int))) (hy : E y = some (.int .u32 15)) (ha : a < 4294967296) : Runs P E o w (.int .u32 ((a % 16 : Nat) : Int)) w := by
  refine .bin ho hx hy rfl ?_
  show (Op.intBits .and .u32 a 15).run P w = _
  have e1 : (BitVec.ofInt IntKind.u32.bits 15).toNat = 15 := by simp [IntKind.bits]
  have e2 : a &&& 15 = a % 16 := Nat.and_two_pow_sub_one_eq_mod a 4
  simp only [Op.intBits, BitVec.toNat_and, bv32 ha, e1, e2, u32_id (show a % 16 < 4294967296 by omega)]; rfl
theorem Runs.shr32 {a s : Nat} {k' : IntKind} {q : Int} (ho : o.op = .binOp .shr T x y T') (hx : E x = some (.int .u32 (a : Int))) (hy : E y = some (.int k' q)) (hq : q = (s : Int)) (hs : s ≤ 32) : Runs P E o w (.int .u32 ((a / 2 ^ s : Nat) : Int)) w := by
  subst hq
  refine .shrW ho hx hy (by omega) ?_
  have e : min (s : Int).toNat IntKind.u32.bits = s := by simp [IntKind.bits]; omega
  rw [e]
  show ((a : Int)).fdiv ((2 : Int) ^ s) = _
  rw [Int.fdiv_eq_ediv_of_nonneg _ (by exact Int.le_of_lt (Int.pow_pos (by omega)))]
  rw [Int.natCast_ediv, Int.natCast_pow]; rfl
theorem xor_ones32 {a : Nat} (h : a < 4294967296) : 4294967295 ^^^ a = 4294967295 - a := by
  have := congrArg BitVec.toNat (BitVec.xor_allOnes (x := BitVec.ofNat 32 a))
  rw [BitVec.toNat_xor, BitVec.toNat_not, BitVec.toNat_allOnes, BitVec.toNat_ofNat, Nat.mod_eq_of_lt (by omega)] at this
  rw [Nat.xor_comm]
  exact this
theorem Runs.and32 {a b : Nat} (ho : o.op = .binOp .and T x y T') (hx : E x = some (.int .u32 (a : Int))) (hy : E y = some (.int .u32 (b : Int))) (ha : a < 4294967296) (hb : b < 4294967296) : Runs P E o w (.int .u32 ((a &&& b : Nat) : Int)) w := by
  refine .bin ho hx hy rfl ?_
  show (Op.intBits .and .u32 a b).run P w = _
  have hr : a &&& b < 4294967296 := Nat.and_lt_two_pow (n := 32) a hb
  simp only [Op.intBits, BitVec.toNat_and, bv32 ha, bv32 hb, u32_id hr]; rfl
theorem Runs.or32 {a b : Nat} (ho : o.op = .binOp .or T x y T') (hx : E x = some (.int .u32 (a : Int))) (hy : E y = some (.int .u32 (b : Int))) (ha : a < 4294967296) (hb : b < 4294967296) : Runs P E o w (.int .u32 ((a ||| b : Nat) : Int)) w := by
  refine .bin ho hx hy rfl ?_
  show (Op.intBits .or .u32 a b).run P w = _
  have hr : a ||| b < 4294967296 := Nat.or_lt_two_pow (n := 32) ha hb
  simp only [Op.intBits, BitVec.toNat_or, bv32 ha, bv32 hb, u32_id hr]; rfl
theorem Runs.shl32 {a s : Nat} {k' : IntKind} {q : Int} (ho : o.op = .binOp .shl T x y T') (hx : E x = some (.int .u32 (a : Int))) (hy : E y = some (.int k' q)) (hq : q = (s : Int)) (hs : s ≤ 32) : Runs P E o w (.int .u32 ((a * 2 ^ s % 4294967296 : Nat) : Int)) w := by
  subst hq
  refine .shlW ho hx hy (by omega) ?_
  have e : min (s : Int).toNat IntKind.u32.bits = s := by simp [IntKind.bits]; omega
  rw [e, IntKind.wrap_u32, Int.natCast_emod, Int.natCast_mul, Int.natCast_pow]
  rfl
theorem Runs.not32 {a : Nat} (ho : o.op = .unOp .xor T x) (hx : E x = some (.int .u32 (a : Int))) (ha : a < 4294967296) : Runs P E o w (.int .u32 ((4294967295 - a : Nat) : Int)) w := fun ρ h => by
  unfold execOp; simp only [ho]; rw [h _ _ hx]
  have e1 : (BitVec.ofInt IntKind.u32.bits IntKind.u32.max).toNat = 4294967295 := by decide
  have e2 : IntKind.u32.signed = false := rfl
  simp only [Op.unary, e2, Bool.false_eq_true, if_false, Op.intBits, BitVec.toNat_xor, bv32 ha, e1, xor_ones32 ha, u32_id (show 4294967295 - a < 4294967296 by omega)]; rfl
end
theorem and_split (k v q : Nat) {u p : Nat} (hu : u < 2 ^ k) (hp : p < 2 ^ k) : (2 ^ k * v + u) &&& (2 ^ k * q + p) = 2 ^ k * (v &&& q) + (u &&& p) := by
  apply Nat.eq_of_testBit_eq
  intro j
  have h3 : u &&& p < 2 ^ k := Nat.and_lt_two_pow u hp
  rw [Nat.testBit_and, Nat.testBit_two_pow_mul_add _ hu, Nat.testBit_two_pow_mul_add _ hp, Nat.testBit_two_pow_mul_add _ h3]
  split <;> simp [Nat.testBit_and]
theorem or_split (k v q : Nat) {u p : Nat} (hu : u < 2 ^ k) (hp : p < 2 ^ k) : (2 ^ k * v + u) ||| (2 ^ k * q + p) = 2 ^ k * (v ||| q) + (u ||| p) := by
  apply Nat.eq_of_testBit_eq
  intro j
  have h3 : u ||| p < 2 ^ k := Nat.or_lt_two_pow hu hp
  rw [Nat.testBit_or, Nat.testBit_two_pow_mul_add _ hu, Nat.testBit_two_pow_mul_add _ hp, Nat.testBit_two_pow_mul_add _ h3]
  split <;> simp [Nat.testBit_or]
/-- A number's four bytes the other way round. -/
def revN (x : Nat) : Nat := 16777216 * (x % 256) + 65536 * (x / 256 % 256) + 256 * (x / 65536 % 256) + x / 16777216 % 256
theorem mask_and (x : Nat) : x &&& 16711935 = 65536 * (x / 65536 % 256) + x % 256 := by
  have e1 : x = 2 ^ 16 * (x / 65536) + x % 65536 := by omega
  have e2 : 16711935 = 2 ^ 16 * 255 + 255 := by decide
  have h1 : x / 65536 &&& 255 = x / 65536 % 256 := Nat.and_two_pow_sub_one_eq_mod _ 8
  have h2 : x % 65536 &&& 255 = x % 65536 % 256 := Nat.and_two_pow_sub_one_eq_mod _ 8
  conv => lhs; rw [e1, e2]
  rw [and_split 16 _ _ (by omega) (by omega), h1, h2]
  omega
theorem or_low (y : Nat) {x : Nat} (hx : x < 256) : x ||| 256 * y = 256 * y + x := by
  rw [Nat.or_comm]
  exact (Nat.two_pow_add_eq_or_of_lt (i := 8) hx y).symm
theorem rev_eq {x : Nat} (h : x < 4294967296) :
    ((x / 2 ^ 8 &&& 16711935) ||| ((x &&& 16711935) * 2 ^ 8 % 4294967296)) / 2 ^ 16 ||| ((x / 2 ^ 8 &&& 16711935) ||| ((x &&& 16711935) * 2 ^ 8 % 4294967296)) * 2 ^ 16 % 4294967296 = revN x := by
  obtain ⟨c, hc⟩ : ∃ c, c = (x / 2 ^ 8 &&& 16711935) ||| ((x &&& 16711935) * 2 ^ 8 % 4294967296) := ⟨_, rfl⟩
  rw [← hc]
  have h1 : c = 65536 * (256 * (x / 65536 % 256) + x / 16777216 % 256) + (256 * (x % 256) + x / 256 % 256) := by
    rw [hc, mask_and, mask_and]
    have e1 : 65536 * (x / 2 ^ 8 / 65536 % 256) + x / 2 ^ 8 % 256 = 2 ^ 16 * (x / 16777216 % 256) + x / 256 % 256 := by omega
    have e2 : (65536 * (x / 65536 % 256) + x % 256) * 2 ^ 8 % 4294967296 = 2 ^ 16 * (256 * (x / 65536 % 256)) + 256 * (x % 256) := by omega
    rw [e1, e2, or_split 16 _ _ (by omega) (by omega), or_low _ (by omega), or_low _ (by omega)]
  have h2 : c / 2 ^ 16 = 256 * (x / 65536 % 256) + x / 16777216 % 256 := by omega
  have h3 : c * 2 ^ 16 % 4294967296 = 2 ^ 16 * (256 * (x % 256) + x / 256 % 256) := by omega
  rw [h2, h3, Nat.or_comm, ← Nat.two_pow_add_eq_or_of_lt (i := 16) (by omega)]
  unfold revN
  omega
theorem revN_lt (x : Nat) : revN x < 4294967296 := by unfold revN; omega
theorem rev_any (x : Nat) (w : World) (hx : x < 4294967296) : Calls Tryz.prog 90 #[.int .u32 (x : Int)] w fun e w' => e = .returned (.int .u32 ((revN x : Nat) : Int)) ∧ Grow w w' := by
  have bel := Below.refl w.heap.size w
  have hm1 := mask_and (x / 2 ^ 8)
  have hm2 := mask_and x
  refine Calls.start 15 Tryz.func90 rfl rfl rfl ?_
  refine Cd.seq ?_
  refine Cd.region ?_
  refine Seq.val (Runs.assign rfl rfl) rfl rfl rfl ?_
  refine Seq.nil ?_
  refine Post.weak (F' := [(0, _), (2, _)]) ⟨rfl, rfl, trivial⟩ ?_
  refine Post.then_ ?_
  refine Cd.seq ?_
  refine Cd.region ?_
  refine Seq.val (Runs.move rfl rfl) rfl rfl rfl ?_
  refine Seq.val (Runs.shr32 (s := 8) rfl rfl rfl rfl (by omega)) rfl rfl rfl ?_
  refine Seq.val (Runs.and32 (b := 16711935) rfl rfl rfl (by omega) (by omega)) rfl rfl rfl ?_
  refine Seq.val (Runs.move rfl rfl) rfl rfl rfl ?_
  refine Seq.val (Runs.and32 (b := 16711935) rfl rfl rfl (by omega) (by omega)) rfl rfl rfl ?_
  refine Seq.val (Runs.shl32 (s := 8) rfl rfl rfl rfl (by omega)) rfl rfl rfl ?_
  refine Seq.val (Runs.or32 rfl rfl rfl (by omega) (by omega)) rfl rfl rfl ?_
  obtain ⟨c, hc⟩ : ∃ c, c = (x / 2 ^ 8 &&& 16711935) ||| ((x &&& 16711935) * 2 ^ 8 % 4294967296) := ⟨_, rfl⟩
  have hc32 : c < 4294967296 := by rw [hc]; exact Nat.or_lt_two_pow (n := 32) (by omega) (by omega)
  have hrev := rev_eq hx
  rw [← hc] at hrev ⊢
  refine Seq.val (Runs.assign rfl rfl) rfl rfl rfl ?_
  refine Seq.nil ?_
  refine Post.weak (F' := [(0, _), (2, _)]) ⟨rfl, rfl, trivial⟩ ?_
  refine Post.then_ ?_
  refine Cd.seq ?_
  refine Cd.region ?_
  refine Seq.val (Runs.move rfl rfl) rfl rfl rfl ?_
  refine Seq.val (Runs.shr32 (s := 16) rfl rfl rfl rfl (by omega)) rfl rfl rfl ?_
  refine Seq.val (Runs.move rfl rfl) rfl rfl rfl ?_
  refine Seq.val (Runs.shl32 (s := 16) rfl rfl rfl rfl (by omega)) rfl rfl rfl ?_
  refine Seq.val (Runs.or32 rfl rfl rfl (by omega) (by omega)) rfl rfl rfl ?_
  rw [hrev]
  refine Seq.val (Runs.assign rfl rfl) rfl rfl rfl ?_
  refine Seq.nil ?_
  refine Post.weak (F' := [(0, _), (2, _)]) ⟨rfl, rfl, trivial⟩ ?_
  refine Post.then_ ?_
  refine Cd.ret ?_
  refine Post.end1 rfl rfl (.inl rfl) ?_
  exact ⟨rfl, bel⟩
theorem beB_rev (x : Nat) : beB 4 (revN x) = [x % 256, x / 256 % 256, x / 65536 % 256, x / 16777216 % 256] := by
  have e : beB 4 (revN x) = [revN x / 16777216 % 256, revN x / 65536 % 256, revN x / 256 % 256, revN x / 1 % 256] := rfl
  rw [e]
  unfold revN
  have ha : x % 256 < 256 := Nat.mod_lt _ (by omega)
  have hb : x / 256 % 256 < 256 := Nat.mod_lt _ (by omega)
  have hc : x / 65536 % 256 < 256 := Nat.mod_lt _ (by omega)
  have hd : x / 16777216 % 256 < 256 := Nat.mod_lt _ (by omega)
  generalize x % 256 = a at ha ⊢
  generalize x / 256 % 256 = b at hb ⊢
  generalize x / 65536 % 256 = c at hc ⊢
  generalize x / 16777216 % 256 = d at hd ⊢
  simp only [List.cons.injEq, and_true]
  refine ⟨?_, ?_, ?_, ?_⟩ <;> omega
set_option maxHeartbeats 1000000 in
theorem more_any (sum : Nat) (s : List Nat) (w : World) (hN : Nib w) (hsum : sum < 4294967296) (hs : Byt s) (hl : s.length ≤ 1000000000) : Calls Tryz.prog 126 #[.int .u32 (sum : Int), .string (strOf s)] w fun e w' => e = .returned (.int .u32 ((moreN sum s : Nat) : Int)) ∧ Grow w w' := by
  have bel := Below.refl w.heap.size w
  refine Calls.start 37 Tryz.func126 rfl rfl rfl ?_
  refine Cd.seq ?_
  refine Cd.region ?_
  refine Seq.val (Runs.assign rfl rfl) rfl rfl rfl ?_
  refine Seq.nil ?_
  refine Post.weak (F' := [(0, _), (1, _), (4, _)]) ⟨rfl, rfl, rfl, trivial⟩ ?_
  refine Post.then_ ?_
  refine Cd.seq ?_
  refine Cd.region ?_
  refine Seq.val (Runs.move rfl rfl) rfl rfl rfl ?_
  refine Seq.val (Runs.not32 rfl rfl hsum) rfl rfl rfl ?_
  refine Seq.val (Runs.assign rfl rfl) rfl rfl rfl ?_
  refine Seq.nil ?_
  refine Post.weak (F' := [(0, _), (1, _), (4, _), (5, _)]) ⟨rfl, rfl, rfl, rfl, trivial⟩ ?_
  refine Post.then_ ?_
  refine Cd.seq ?_
  refine Cd.seq ?_
  refine Cd.region ?_
  refine Seq.val (Runs.move rfl rfl) rfl rfl rfl ?_
  refine Seq.val (Runs.lenL rfl rfl Tryz.underlying9) rfl rfl rfl ?_
  refine Seq.val (Runs.move rfl rfl) rfl rfl rfl ?_
  refine Seq.nil ?_
  refine Post.weak (F' := [(0, _), (1, _), (4, _), (5, _), (10, _), (11, _)]) ⟨rfl, rfl, rfl, rfl, rfl, rfl, trivial⟩ ?_
  refine Post.then_ ?_
  refine Cd.block ?_
  refine Cd.loop (σ := Nat) (fun j => [(1, .string (strOf s)), (10, .int .i64 (s.length : Int)), (11, .int .i64 (j : Int)), (5, .int .u32 ((regN (4294967295 - sum) (s.take j) : Nat) : Int))]) (fun j wr => j ≤ s.length ∧ Below w.heap.size w wr) (fun j => s.length - j) 0 ⟨Nat.zero_le _, bel⟩ ⟨rfl, rfl, rfl, rfl, trivial⟩ ?_
  clear bel
  rintro j wr ⟨hj, bel⟩
  refine Cd.seq ?_
  refine Cd.region ?_
  refine Seq.val (Runs.lss rfl rfl rfl) rfl rfl rfl ?_
  refine Seq.nil ?_
  refine Post.weak (F' := [(1, _), (5, _), (10, _), (11, _), (12, _)]) ⟨rfl, rfl, rfl, rfl, rfl, trivial⟩ ?_
  refine Post.then_ ?_
  refine Cd.seq ?_
  refine Cd.condD rfl (fun hc => ?_) (fun hc => ?_)
  · obtain ⟨b, hb⟩ : ∃ b, s[j]? = some b := ⟨_, List.getElem?_eq_getElem (by omega)⟩
    have hb256 := hs b (List.mem_of_getElem? hb)
    obtain ⟨r, hr⟩ : ∃ r, r = regN (4294967295 - sum) (s.take j) := ⟨_, rfl⟩
    have hr32 : r < 4294967296 := by rw [hr]; exact regN_lt (by omega) (hs.take j)
    have hx1 : r ^^^ b < 4294967296 := xor_lt32 hr32 (by omega)
    have hx2 := stepN_lt hx1
    have nb : Nib wr := ⟨fun i hi => cell_grow (hN.cell i hi) (bel.mono (Nat.le_refl _))⟩
    rw [← hr]
    refine Cd.skip ?_
    refine Post.then_ ?_
    refine Cd.seq ?_
    refine Cd.block ?_
    refine Cd.seq ?_
    refine Cd.region ?_
    refine Seq.val (Runs.move rfl rfl) rfl rfl rfl ?_
    refine Seq.val (Runs.assign rfl rfl) rfl rfl rfl ?_
    refine Seq.nil ?_
    refine Post.weak (F' := [(1, _), (5, _), (6, _), (10, _), (11, _), (12, _)]) ⟨rfl, rfl, rfl, rfl, rfl, rfl, trivial⟩ ?_
    refine Post.then_ ?_
    refine Cd.seq ?_
    refine Cd.region ?_
    refine Seq.val (Runs.move rfl rfl) rfl rfl rfl ?_
    refine Seq.val (Runs.move rfl rfl) rfl rfl rfl ?_
    refine Seq.val (Runs.move rfl rfl) rfl rfl rfl ?_
    refine Seq.val (Runs.indexL rfl rfl rfl Tryz.underlying9 (j := j) rfl hb hb256) rfl rfl rfl ?_
    refine Seq.val (Runs.convI rfl rfl Tryz.underlying5 Tryz.underlying65 (u32_id (show b < 4294967296 by omega))) rfl rfl rfl ?_
    refine Seq.val (Runs.xor32 rfl rfl rfl hr32 (show b < 4294967296 by omega)) rfl rfl rfl ?_
    obtain ⟨x1, hx1e⟩ : ∃ x1, x1 = r ^^^ b := ⟨_, rfl⟩
    rw [← hx1e] at hx1 hx2 ⊢
    refine Seq.val (Runs.assign rfl rfl) rfl rfl rfl ?_
    refine Seq.nil ?_
    refine Post.weak (F' := [(1, _), (5, _), (6, _), (10, _), (11, _), (12, _)]) ⟨rfl, rfl, rfl, rfl, rfl, rfl, trivial⟩ ?_
    refine Post.then_ ?_
    refine Cd.seq ?_
    refine Cd.region ?_
    refine Seq.val (Runs.move rfl rfl) rfl rfl rfl ?_
    refine Seq.val (Runs.shr32 (s := 4) rfl rfl rfl rfl (by omega)) rfl rfl rfl ?_
    refine Seq.val (Runs.move rfl rfl) rfl rfl rfl ?_
    refine Seq.val (Runs.and15 rfl rfl rfl hx1) rfl rfl rfl ?_
    refine Seq.val (Runs.indexArr rfl rfl rfl Tryz.underlying195 (by kernel_rfl) (j := x1 % 16) rfl (by omega)) rfl rfl rfl ?_
    refine Seq.val (Runs.load1 rfl rfl Tryz.underlying65 rfl (nb.cell (x1 % 16) (by omega))) rfl rfl rfl ?_
    refine Seq.val ((Runs.xor32 rfl rfl rfl (show x1 / 2 ^ 4 < 4294967296 by omega) (nibs_lt _)).cast (v' := .int .u32 ((stepN x1 : Nat) : Int)) rfl) rfl rfl rfl ?_
    obtain ⟨x2, hx2e⟩ : ∃ x2, x2 = stepN x1 := ⟨_, rfl⟩
    rw [← hx2e] at hx2 ⊢
    refine Seq.val (Runs.assign rfl rfl) rfl rfl rfl ?_
    refine Seq.nil ?_
    refine Post.weak (F' := [(1, _), (5, _), (6, _), (10, _), (11, _), (12, _)]) ⟨rfl, rfl, rfl, rfl, rfl, rfl, trivial⟩ ?_
    refine Post.then_ ?_
    refine Cd.region ?_
    refine Seq.val (Runs.move rfl rfl) rfl rfl rfl ?_
    refine Seq.val (Runs.shr32 (s := 4) rfl rfl rfl rfl (by omega)) rfl rfl rfl ?_
    refine Seq.val (Runs.move rfl rfl) rfl rfl rfl ?_
    refine Seq.val (Runs.and15 rfl rfl rfl hx2) rfl rfl rfl ?_
    refine Seq.val (Runs.indexArr rfl rfl rfl Tryz.underlying195 (by kernel_rfl) (j := x2 % 16) rfl (by omega)) rfl rfl rfl ?_
    refine Seq.val (Runs.load1 rfl rfl Tryz.underlying65 rfl (nb.cell (x2 % 16) (by omega))) rfl rfl rfl ?_
    refine Seq.val ((Runs.xor32 rfl rfl rfl (show x2 / 2 ^ 4 < 4294967296 by omega) (nibs_lt _)).cast (v' := .int .u32 ((stepN x2 : Nat) : Int)) rfl) rfl rfl rfl ?_
    refine Seq.val (Runs.assign rfl rfl) rfl rfl rfl ?_
    refine Seq.nil ?_
    refine Post.weak (F' := [(1, _), (5, _), (6, _), (10, _), (11, _), (12, _)]) ⟨rfl, rfl, rfl, rfl, rfl, rfl, trivial⟩ ?_
    refine Post.block_normal ?_
    refine Post.then_ ?_
    refine Cd.region ?_
    refine Seq.val (Runs.addI rfl rfl rfl (by omega) (by omega)) rfl rfl rfl ?_
    refine Seq.val (Runs.move rfl rfl) rfl rfl rfl ?_
    refine Seq.nil ?_
    refine Post.weak (F' := [(1, _), (5, _), (6, _), (10, _), (11, _), (12, _)]) ⟨rfl, rfl, rfl, rfl, rfl, rfl, trivial⟩ ?_
    refine Post.round (j + 1) ⟨rfl, rfl, int_at (by omega), ?_, trivial⟩ ⟨by omega, bel⟩ (by omega)
    have hst : regN (4294967295 - sum) (s.take (j + 1)) = stepN x2 := by
      rw [take_last hb]
      unfold regN
      rw [List.foldl_append]
      show crcB (regN (4294967295 - sum) (s.take j)) b = _
      rw [← hr, hx2e, hx1e]
      rfl
    rw [hst]
    rfl
  · skip
    refine Cd.exit ?_
    refine Post.then_exit ?_
    refine Post.round_exit ?_
    refine Post.block_exit ?_
    refine Post.then_ ?_
    refine Cd.seq ?_
    refine Cd.region ?_
    refine Seq.val (Runs.move rfl rfl) rfl rfl rfl ?_
    have hj' : s.take j = s := List.take_of_length_le (by omega)
    rw [hj']
    refine Seq.val (Runs.not32 rfl rfl (regN_lt (by omega) hs)) rfl rfl rfl ?_
    refine Seq.val (Runs.assign rfl rfl) rfl rfl rfl ?_
    refine Seq.nil ?_
    refine Post.weak (F' := [(1, _), (4, _), (5, _), (10, _), (11, _), (12, _)]) ⟨rfl, rfl, rfl, rfl, rfl, rfl, trivial⟩ ?_
    refine Post.then_ ?_
    refine Cd.ret ?_
    refine Post.end1 rfl rfl (.inl rfl) ?_
    exact ⟨rfl, bel⟩
end Go.Proofs.YtnlepoplncjliaaGreatDoor
