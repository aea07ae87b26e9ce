/-
  NumNear: rounded down, up by one at most; the four ways lie within one of one another: the statement returns true. No condition.
-/
import Derived.Test.YtpdeihienkbeeaaNumI
import Derived.Test.YtpdeihienkbeeaaOpenI
namespace Go.Proofs.Ytpdeihienkbeeaa
open Go.ChangeShapes Go.WideShapes Go.ChangeAt Go.RowKit

section
variable {P : Program} {E : Operand → Option Value} {o : Oper} {w : World} {x y x' y' : Operand} {k : IntKind} {p q r s : Int}
theorem Runs.min4 {ts : Array TypeId} (ho : o.op = .call { callee := .builtin .min, args := #[x, y, x', y'], argTypes := ts }) (hx : E x = some (.int k p)) (hy : E y = some (.int k q)) (hx' : E x' = some (.int k r)) (hy' : E y' = some (.int k s)) : Runs P E o w (.int k (min (min (min p q) r) s)) w :=
  .of_call ho rfl (vs := [.int k p, .int k q, .int k r, .int k s]) (by simp only [evL, hx, hy, hx', hy']) (fun cs => by
    have h : ∀ p q : Int, (if q < p then q else p) = min p q := by intro p q; omega
    simp [builtin, Builtin.min_, Builtin.min2, h])
theorem Runs.max4 {ts : Array TypeId} (ho : o.op = .call { callee := .builtin .max, args := #[x, y, x', y'], argTypes := ts }) (hx : E x = some (.int k p)) (hy : E y = some (.int k q)) (hx' : E x' = some (.int k r)) (hy' : E y' = some (.int k s)) : Runs P E o w (.int k (max (max (max p q) r) s)) w :=
  .of_call ho rfl (vs := [.int k p, .int k q, .int k r, .int k s]) (by simp only [evL, hx, hy, hx', hy']) (fun cs => by
    have h : ∀ p q : Int, (if p < q then q else p) = max p q := by intro p q; omega
    simp [builtin, Builtin.max_, Builtin.max2, h])
end
theorem near_rnd (m : Nat) (neg : Bool) (c : Int) (h0 : c ≠ 0) : ∃ lo, rndZ m neg c 1 = lo ∧ (rndZ m neg c 0 = lo ∨ rndZ m neg c 0 = lo + 1) ∧ (rndZ m neg c 2 = lo ∨ rndZ m neg c 2 = lo + 1) ∧ (rndZ m neg c 3 = lo ∨ rndZ m neg c 3 = lo + 1) := by
  have hp : 0 < c.natAbs := by omega
  unfold rndZ
  generalize decide (neg ≠ decide (c < 0)) = ns
  have hlt := Nat.mod_lt m hp
  generalize m / c.natAbs = q at *
  generalize m % c.natAbs = l at *
  generalize c.natAbs = b at *
  generalize decide (q % 2 = 1) = od
  have e0 : awayB 0 od ns l b = false := rfl
  have e1 : awayB 1 od ns l b = (ns && decide (0 < l)) := rfl
  have e2 : awayB 2 od ns l b = (decide (b < 2 * l) || decide (b = 2 * l)) := rfl
  have e3 : awayB 3 od ns l b = (decide (b < 2 * l) || (decide (b = 2 * l) && od)) := rfl
  have h2 : awayB 2 od ns l b = true → 0 < l := by rw [e2]; simp; omega
  have h3 : awayB 3 od ns l b = true → 0 < l := by rw [e3]; simp; omega
  rw [e0, e1]
  generalize awayB 2 od ns l b = a2 at *
  generalize awayB 3 od ns l b = a3 at *
  unfold sgn
  refine ⟨_, rfl, ?_⟩
  by_cases hl : 0 < l
  · rw [decide_eq_true hl]
    cases ns <;> cases a2 <;> cases a3 <;> simp <;> omega
  · rw [decide_eq_false hl]
    have ha2 : a2 = false := by cases a2 with | false => rfl | true => exact absurd (h2 rfl) hl
    have ha3 : a3 = false := by cases a3 with | false => rfl | true => exact absurd (h3 rfl) hl
    rw [ha2, ha3]
    cases ns <;> simp
theorem near_once (a b c mode : Int) (ha : I64 a) (hb : I64 b) (hc : I64 c) (h0 : 0 ≤ mode) (h3 : mode ≤ 3) : ∃ x y, (∀ w, Calls Try.prog 13 #[.int .i64 a, .int .i64 b, .int .i64 c, .int .i64 mode] w fun e w' => e = .returned (.tuple #[.int .i64 x, .bool y]) ∧ Grow w w') ∧
    (y = true → c ≠ 0 ∧ x = rndZ (a.natAbs * b.natAbs) (decide (decide (a < 0) ≠ decide (b < 0))) c mode ∧ I64 x) := by
  by_cases hc0 : c = 0
  · refine ⟨0, false, fun w => ?_, fun h => by cases h⟩
    have h := MulDiv_any a b c mode w ha hb hc
    rw [if_pos (.inl hc0)] at h
    exact h
  · refine ⟨smallOf (rndZ (a.natAbs * b.natAbs) (decide (decide (a < 0) ≠ decide (b < 0))) c mode), fits (rndZ (a.natAbs * b.natAbs) (decide (decide (a < 0) ≠ decide (b < 0))) c mode), fun w => ?_, fun h => ⟨hc0, ?_, ?_⟩⟩
    · have h := MulDiv_any a b c mode w ha hb hc
      rw [if_neg (by omega)] at h
      exact h
    · unfold smallOf; rw [h]; rfl
    · exact smallOf_bd _

theorem walk_near (a b c : Int) (w : World) (ha : I64 a) (hb : I64 b) (hc : I64 c) :
    Calls Try.prog 7 #[.int .i64 a, .int .i64 b, .int .i64 c] w fun e w' => e = .returned (.bool true) ∧ Below w.heap.size w w' := by
  have bel := Below.refl w.heap.size w
  obtain ⟨x0, y0, m0, h0⟩ := near_once a b c 0 ha hb hc (by omega) (by omega)
  obtain ⟨x1, y1, m1, h1⟩ := near_once a b c 1 ha hb hc (by omega) (by omega)
  obtain ⟨x2, y2, m2, h2⟩ := near_once a b c 2 ha hb hc (by omega) (by omega)
  obtain ⟨x3, y3, m3, h3⟩ := near_once a b c 3 ha hb hc (by omega) (by omega)
  refine Calls.start 87 Try.func7 rfl rfl rfl ?_
  refine Cd.seq ?_
  refine Cd.region ?_
  refine Seq.val (Runs.assign rfl rfl) rfl rfl rfl ?_
  refine Seq.nil ?_
  refine Post.weak (F' := [(0, _), (1, _), (2, _), (6, _)]) ⟨rfl, rfl, rfl, rfl, trivial⟩ ?_
  refine Post.then_ ?_
  refine Cd.seq ?_
  refine Cd.region ?_
  refine Seq.val (Runs.move rfl rfl) rfl rfl rfl ?_
  refine Seq.val (Runs.move rfl rfl) rfl rfl rfl ?_
  refine Seq.val (Runs.move rfl rfl) rfl rfl rfl ?_
  refine Seq.call (Enters.func rfl rfl rfl (run_enter Try.func13 (by kernel_rfl) rfl)) rfl rfl rfl (m0 _) ?_
  rintro e w5 ⟨rfl, hb5⟩
  refine ⟨_, rfl, ?_⟩
  replace bel := bel.step hb5
  refine Seq.val (Runs.move rfl rfl) rfl rfl rfl ?_
  refine Seq.val (Runs.extract rfl rfl rfl) rfl rfl rfl ?_
  refine Seq.val (Runs.extract rfl rfl rfl) rfl rfl rfl ?_
  refine Seq.val (Runs.assign rfl rfl) rfl rfl rfl ?_
  refine Seq.val (Runs.assign rfl rfl) rfl rfl rfl ?_
  refine Seq.nil ?_
  refine Post.weak (F' := [(0, _), (1, _), (2, _), (6, _), (7, _), (8, _)]) ⟨rfl, rfl, rfl, rfl, rfl, rfl, trivial⟩ ?_
  refine Post.then_ ?_
  refine Cd.seq ?_
  refine Cd.region ?_
  refine Seq.val (Runs.move rfl rfl) rfl rfl rfl ?_
  refine Seq.val (Runs.move rfl rfl) rfl rfl rfl ?_
  refine Seq.val (Runs.move rfl rfl) rfl rfl rfl ?_
  refine Seq.call (Enters.func rfl rfl rfl (run_enter Try.func13 (by kernel_rfl) rfl)) rfl rfl rfl (m1 _) ?_
  rintro e w6 ⟨rfl, hb6⟩
  refine ⟨_, rfl, ?_⟩
  replace bel := bel.step hb6
  refine Seq.val (Runs.move rfl rfl) rfl rfl rfl ?_
  refine Seq.val (Runs.extract rfl rfl rfl) rfl rfl rfl ?_
  refine Seq.val (Runs.extract rfl rfl rfl) rfl rfl rfl ?_
  refine Seq.val (Runs.assign rfl rfl) rfl rfl rfl ?_
  refine Seq.val (Runs.assign rfl rfl) rfl rfl rfl ?_
  refine Seq.nil ?_
  refine Post.weak (F' := [(0, _), (1, _), (2, _), (6, _), (7, _), (8, _), (9, _), (10, _)]) ⟨rfl, rfl, rfl, rfl, rfl, rfl, rfl, rfl, trivial⟩ ?_
  refine Post.then_ ?_
  refine Cd.seq ?_
  refine Cd.region ?_
  refine Seq.val (Runs.move rfl rfl) rfl rfl rfl ?_
  refine Seq.val (Runs.move rfl rfl) rfl rfl rfl ?_
  refine Seq.val (Runs.move rfl rfl) rfl rfl rfl ?_
  refine Seq.call (Enters.func rfl rfl rfl (run_enter Try.func13 (by kernel_rfl) rfl)) rfl rfl rfl (m2 _) ?_
  rintro e w7 ⟨rfl, hb7⟩
  refine ⟨_, rfl, ?_⟩
  replace bel := bel.step hb7
  refine Seq.val (Runs.move rfl rfl) rfl rfl rfl ?_
  refine Seq.val (Runs.extract rfl rfl rfl) rfl rfl rfl ?_
  refine Seq.val (Runs.extract rfl rfl rfl) rfl rfl rfl ?_
  refine Seq.val (Runs.assign rfl rfl) rfl rfl rfl ?_
  refine Seq.val (Runs.assign rfl rfl) rfl rfl rfl ?_
  refine Seq.nil ?_
  refine Post.weak (F' := [(0, _), (1, _), (2, _), (6, _), (7, _), (8, _), (9, _), (10, _), (11, _), (12, _)]) ⟨rfl, rfl, rfl, rfl, rfl, rfl, rfl, rfl, rfl, rfl, trivial⟩ ?_
  refine Post.then_ ?_
  refine Cd.seq ?_
  refine Cd.region ?_
  refine Seq.val (Runs.move rfl rfl) rfl rfl rfl ?_
  refine Seq.val (Runs.move rfl rfl) rfl rfl rfl ?_
  refine Seq.val (Runs.move rfl rfl) rfl rfl rfl ?_
  refine Seq.call (Enters.func rfl rfl rfl (run_enter Try.func13 (by kernel_rfl) rfl)) rfl rfl rfl (m3 _) ?_
  rintro e w8 ⟨rfl, hb8⟩
  refine ⟨_, rfl, ?_⟩
  replace bel := bel.step hb8
  refine Seq.val (Runs.move rfl rfl) rfl rfl rfl ?_
  refine Seq.val (Runs.extract rfl rfl rfl) rfl rfl rfl ?_
  refine Seq.val (Runs.extract rfl rfl rfl) rfl rfl rfl ?_
  refine Seq.val (Runs.assign rfl rfl) rfl rfl rfl ?_
  refine Seq.val (Runs.assign rfl rfl) rfl rfl rfl ?_
  refine Seq.nil ?_
  refine Post.weak (F' := [(0, _), (1, _), (2, _), (6, _), (7, _), (8, _), (9, _), (10, _), (11, _), (12, _), (13, _), (14, _)]) ⟨rfl, rfl, rfl, rfl, rfl, rfl, rfl, rfl, rfl, rfl, rfl, rfl, trivial⟩ ?_
  refine Post.then_ ?_
  refine Cd.seq ?_
  refine Cd.seq ?_
  refine Cd.region ?_
  refine Seq.val (Runs.move rfl rfl) rfl rfl rfl ?_
  refine Seq.val (Runs.not rfl rfl) rfl rfl rfl ?_
  refine Seq.val (Runs.move rfl rfl) rfl rfl rfl ?_
  refine SeqC.start ?_
  refine SeqC.open rfl rfl rfl rfl rfl rfl rfl (fun hcx => Runs.move rfl rfl) ?_
  refine SeqC.next rfl rfl rfl rfl rfl rfl rfl (fun hcx => Runs.not rfl rfl) ?_
  refine SeqC.or rfl rfl rfl rfl rfl rfl rfl ?_
  refine Seq.val (Runs.move rfl rfl) rfl rfl rfl ?_
  refine SeqC.start ?_
  refine SeqC.open rfl rfl rfl rfl rfl rfl rfl (fun hcx => Runs.move rfl rfl) ?_
  refine SeqC.next rfl rfl rfl rfl rfl rfl rfl (fun hcx => Runs.not rfl rfl) ?_
  refine SeqC.or rfl rfl rfl rfl rfl rfl rfl ?_
  refine Seq.val (Runs.move rfl rfl) rfl rfl rfl ?_
  refine SeqC.start ?_
  refine SeqC.open rfl rfl rfl rfl rfl rfl rfl (fun hcx => Runs.move rfl rfl) ?_
  refine SeqC.next rfl rfl rfl rfl rfl rfl rfl (fun hcx => Runs.not rfl rfl) ?_
  refine SeqC.or rfl rfl rfl rfl rfl rfl rfl ?_
  refine Seq.nil ?_
  refine Post.weak (F' := [(0, _), (1, _), (2, _), (6, _), (7, _), (8, _), (9, _), (10, _), (11, _), (12, _), (13, _), (14, _), (58, _)]) ⟨rfl, rfl, rfl, rfl, rfl, rfl, rfl, rfl, rfl, rfl, rfl, rfl, rfl, trivial⟩ ?_
  refine Post.then_ ?_
  refine Cd.cond rfl (fun h => ?_) (fun h => ?_)
  · skip
    refine Cd.seq ?_
    refine Cd.region ?_
    refine Seq.call (Enters.func rfl rfl rfl (run_enter Try.func15 (by kernel_rfl) rfl)) rfl rfl rfl (awake_any _) ?_
    rintro e w9 ⟨rfl, hb9⟩
    refine ⟨_, rfl, ?_⟩
    replace bel := bel.step hb9
    refine Seq.val (Runs.assign rfl rfl) rfl rfl rfl ?_
    refine Seq.nil ?_
    refine Post.weak (F' := [(0, _), (1, _), (2, _), (6, _), (7, _), (8, _), (9, _), (10, _), (11, _), (12, _), (13, _), (14, _), (58, _)]) ⟨rfl, rfl, rfl, rfl, rfl, rfl, rfl, rfl, rfl, rfl, rfl, rfl, rfl, trivial⟩ ?_
    refine Post.then_ ?_
    refine Cd.ret ?_
    refine Post.then_ret ?_
    refine Post.end1 rfl rfl (.inl rfl) ?_
    exact ⟨rfl, bel⟩
  simp at h
  obtain ⟨⟨⟨rfl, rfl⟩, rfl⟩, rfl⟩ := h
  obtain ⟨hc0, e0, b0⟩ := h0 rfl
  obtain ⟨-, e1, b1⟩ := h1 rfl
  obtain ⟨-, e2, b2⟩ := h2 rfl
  obtain ⟨-, e3, b3⟩ := h3 rfl
  obtain ⟨lo, n1, n0, n2, n3⟩ := near_rnd (a.natAbs * b.natAbs) (decide (decide (a < 0) ≠ decide (b < 0))) c hc0
  rw [← e0] at n0
  rw [← e1] at n1
  rw [← e2] at n2
  rw [← e3] at n3
  clear m0 m1 m2 m3 h0 h1 h2 h3 e0 e1 e2 e3
  have hmin : min (min (min x0 x1) x2) x3 = lo := by omega
  obtain ⟨hi, hhi⟩ : ∃ hi, max (max (max x0 x1) x2) x3 = hi := ⟨_, rfl⟩
  have hhi2 : hi = lo ∨ hi = lo + 1 := by omega
  have hb1 := b1.1
  have hb12 := b1.2
  refine Cd.skip ?_
  refine Post.then_ ?_
  refine Cd.seq ?_
  refine Cd.region ?_
  refine Seq.val (Runs.move rfl rfl) rfl rfl rfl ?_
  refine Seq.val (Runs.move rfl rfl) rfl rfl rfl ?_
  refine Seq.val (Runs.move rfl rfl) rfl rfl rfl ?_
  refine Seq.val (Runs.move rfl rfl) rfl rfl rfl ?_
  refine Seq.val (Runs.min4 rfl rfl rfl rfl rfl) rfl rfl rfl ?_
  refine Seq.val (Runs.assign rfl rfl) rfl rfl rfl ?_
  refine Seq.nil ?_
  refine Post.weak (F' := [(0, _), (1, _), (2, _), (6, _), (7, _), (8, _), (9, _), (10, _), (11, _), (12, _), (13, _), (14, _), (15, _), (58, _)]) ⟨rfl, rfl, rfl, rfl, rfl, rfl, rfl, rfl, rfl, rfl, rfl, rfl, rfl, rfl, trivial⟩ ?_
  refine Post.then_ ?_
  refine Cd.seq ?_
  refine Cd.region ?_
  refine Seq.val (Runs.move rfl rfl) rfl rfl rfl ?_
  refine Seq.val (Runs.move rfl rfl) rfl rfl rfl ?_
  refine Seq.val (Runs.move rfl rfl) rfl rfl rfl ?_
  refine Seq.val (Runs.move rfl rfl) rfl rfl rfl ?_
  refine Seq.val (Runs.max4 rfl rfl rfl rfl rfl) rfl rfl rfl ?_
  rw [hmin, hhi]
  refine Seq.val (Runs.assign rfl rfl) rfl rfl rfl ?_
  refine Seq.nil ?_
  refine Post.weak (F' := [(0, _), (1, _), (2, _), (6, _), (7, _), (8, _), (9, _), (10, _), (11, _), (12, _), (13, _), (14, _), (15, _), (16, _), (58, _)]) ⟨rfl, rfl, rfl, rfl, rfl, rfl, rfl, rfl, rfl, rfl, rfl, rfl, rfl, rfl, rfl, trivial⟩ ?_
  refine Post.then_ ?_
  refine Cd.seq ?_
  refine Cd.region ?_
  refine Seq.val (Runs.move rfl rfl) rfl rfl rfl ?_
  refine Seq.val (Runs.move rfl rfl) rfl rfl rfl ?_
  refine Seq.val (Runs.eqlI rfl rfl rfl) rfl rfl rfl ?_
  refine Seq.val (Runs.move rfl rfl) rfl rfl rfl ?_
  refine SeqC.start ?_
  refine SeqC.open rfl rfl rfl rfl rfl rfl rfl (fun hcx => Runs.move rfl rfl) ?_
  refine SeqC.next rfl rfl rfl rfl rfl rfl rfl (fun hcx => Runs.move rfl rfl) ?_
  refine SeqC.next rfl rfl rfl rfl rfl rfl rfl (fun hcx => Runs.subI rfl rfl rfl (by simp at hcx; omega) (by omega)) ?_
  refine SeqC.next rfl rfl rfl rfl rfl rfl rfl (fun hcx => Runs.eqlI rfl rfl rfl) ?_
  refine SeqC.or rfl rfl rfl rfl rfl rfl rfl ?_
  refine Seq.val (Runs.move rfl rfl) rfl rfl rfl ?_
  refine SeqC.start ?_
  refine SeqC.open rfl rfl rfl rfl rfl rfl rfl (fun hcx => Runs.move rfl rfl) ?_
  refine SeqC.next rfl rfl rfl rfl rfl rfl rfl (fun hcx => Runs.move rfl rfl) ?_
  refine SeqC.next rfl rfl rfl rfl rfl rfl rfl (fun hcx => Runs.eqlI rfl rfl rfl) ?_
  refine SeqC.and rfl rfl rfl rfl rfl rfl rfl ?_
  refine Seq.val (Runs.move rfl rfl) rfl rfl rfl ?_
  refine SeqC.start ?_
  refine SeqC.openC rfl rfl rfl rfl rfl rfl rfl (fun hcx => Enters.func rfl rfl rfl (run_enter Try.func15 (by kernel_rfl) rfl)) (fun hcx => awake_any _) ?_
  intro w1 hw1
  replace bel := bel.step hw1
  refine SeqC.and rfl rfl rfl rfl rfl rfl rfl ?_
  refine Seq.val (Runs.assign rfl rfl) rfl rfl rfl ?_
  refine Seq.nil ?_
  refine Post.weak (F' := [(0, _), (1, _), (2, _), (6, _), (7, _), (8, _), (9, _), (10, _), (11, _), (12, _), (13, _), (14, _), (15, _), (16, _), (58, _)]) ⟨rfl, rfl, rfl, rfl, rfl, rfl, rfl, rfl, rfl, rfl, rfl, rfl, rfl, rfl, rfl, trivial⟩ ?_
  refine Post.then_ ?_
  refine Cd.ret ?_
  refine Post.end1 rfl rfl (.inl rfl) ?_
  refine ⟨ret1 (bool_eq ?_), bel⟩
  rcases hhi2 with rfl | rfl
  · simp [n1]
  · simp [n1]

namespace NumNear
theorem own : ownKnob Try.prog.godebug = none := by kernel_rfl
theorem laidOut : laidOutB Try.prog = true := by kernel_rfl
set_option maxRecDepth 100000 in
theorem lifted (os : Os) (started : os.Started) (H : Type) (enc : TypeId × Value → H) :
    ReturnsInHanded {} Try.checked os 7 .any (Rows.numNearSpec.pre6 enc Try.prog Try.f7 Rows.numNearRow.domain false) (Rows.numNearSpec.post enc Try.prog Try.f7 false true false false) := by
  refine returnsInHanded_of_change (C := Try.checked) own started (by kernel_rfl) Try.func7
    (ChangeSpec.witness6 (enc := enc) (C := Try.checked) false ⟨#[], #[.int .i64 0, .int .i64 0, .int .i64 0], []⟩ 8 (by kernel_rfl) (by kernel_rfl) (by kernel_rfl) (by kernel_rfl)) ?_
  intro W base args ds gs before hval0 hW hcnd _
  have hval : ∀ (j : Nat) t v, Try.f7.params[j]? = some t → args[j]? = some v → Value.okWide Try.prog W .any base t v := hval0
  have hW' := hW
  obtain ⟨p, q, hA0, hV, rfl, hfz, hnd⟩ := hW
  have hA : DataW.TrodAll enc Try.prog W 0 (fun _ => true) true Try.f7.params.toList args.toList ds p := hA0
  rw [Try.params7] at hA hval
  obtain ⟨v0, vs0, d0, ds0, p0, q0, hargs, rfl, rfl, h0, r0⟩ := trodAll_cons hA
  obtain ⟨v1, vs1, d1, ds1, p1, q1, rfl, rfl, rfl, h1, r1⟩ := trodAll_cons r0
  obtain ⟨v2, vs2, d2, ds2, p2, q2, rfl, rfl, rfl, h2, r2⟩ := trodAll_cons r1
  obtain ⟨rfl, rfl, rfl⟩ := trodAll_nil r2
  obtain rfl : args = #[v0, v1, v2] := by cases args; simp_all
  obtain ⟨rfl, rfl⟩ := trodVars_none hV
  have k0 := h0
  have lt0 : ∀ x ∈ p0, x.block < W.heap.size := by obtain ⟨m, hm⟩ := k0; exact DataW.trod_lt m _ _ _ hm
  have k1 := h1
  have lt1 : ∀ x ∈ p1, x.block < W.heap.size := by obtain ⟨m, hm⟩ := k1; exact DataW.trod_lt m _ _ _ hm
  have k2 := h2
  have lt2 : ∀ x ∈ p2, x.block < W.heap.size := by obtain ⟨m, hm⟩ := k2; exact DataW.trod_lt m _ _ _ hm
  obtain ⟨a, rfl, ha⟩ := open_i64 Try.underlying2 (hval 0 _ v0 rfl rfl)
  obtain ⟨b, rfl, hb⟩ := open_i64 Try.underlying2 (hval 1 _ v1 rfl rfl)
  obtain ⟨c, rfl, hc⟩ := open_i64 Try.underlying2 (hval 2 _ v2 rfl rfl)
  clear hA0 hval0
  refine (walk_near a b c W ha hb hc).mono fun e W' ⟨he, bel⟩ => ?_
  subst he
  exact ⟨_, rfl, _, _, _, [], _, [], hW', trodAll_mk1 (shut_bool Try.underlying4 _), (trodAll_cons_mk (Below.trod laidOut (by kernel_rfl) (of_decide_eq_true (by kernel_rfl)) k0 bel lt0) (trodAll_cons_mk (Below.trod laidOut (by kernel_rfl) (of_decide_eq_true (by kernel_rfl)) k1 bel lt1) (trodAll_cons_mk (Below.trod laidOut (by kernel_rfl) (of_decide_eq_true (by kernel_rfl)) k2 bel lt2) trodAll_mk0))), rfl, bel.frame _, fun h => by cases h⟩

theorem over : Rows.numNearRow.holds Try.pinned (OpenSpec.ofChange Rows.numNearSpec) :=
  OpenClaim.holds_of_wide 7 Try.f7 rfl rfl rfl rfl rfl rfl rfl ⟨rfl, rfl, rfl, rfl, rfl⟩ rfl rfl rfl rfl rfl (by kernel_rfl) Try.func7 (by kernel_rfl)
    (of_decide_eq_true (by kernel_rfl)) (by unfold Func.isWrapper; first | (rw [if_pos (by decide +kernel)]; kernel_rfl) | (rw [if_neg (by decide +kernel)]; exact ⟨rfl, rfl⟩))
    (fun os started H enc _ => lifted os started H enc)

theorem proved : Rows.NumNearSaid := over

end NumNear
end Go.Proofs.Ytpdeihienkbeeaa
