/-
  Texts that were joined: LexB, KJ, KL, EqA, EqB, EqC. Conditions: what each theorem names.
-/
import Derived.Test.YtenikchlnfhikaaGreatDoorY0
set_option linter.unusedSectionVars false
set_option linter.unusedVariables false
set_option linter.unusedSimpArgs false
namespace Go.Proofs.YtenikchlnfhikaaGreatDoor
open Go.RowKit

/-- Is a text a name? -/
def namedB (l : List Nat) : Bool := decide (l ≠ []) && decide (l.length ≤ 16) && letB (l.getD 0 0) && decide (runN partB l = l.length)
theorem named_any (l : List Nat) (w : World) (hl : ∀ x ∈ l, x < 256) (hlen : l.length ≤ 9223372036854775807) :
    Calls Tryz.prog 35 #[.string (strOf l)] w fun e w' => e = .returned (.bool (namedB l)) ∧ Grow w w' := by
  have bel := Below.refl w.heap.size w
  have h0 : l ≠ [] → l[0]? = some (l.getD 0 0) := by
    intro h
    cases l with
    | nil => exact absurd rfl h
    | cons c l => rfl
  have h1 : l.getD 0 0 < 256 := by
    cases l with
    | nil => simp
    | cons c l => exact hl c (by simp)
  unfold namedB
  generalize l.getD 0 0 = c0 at *
  refine Calls.start 22 Tryz.func35 rfl rfl rfl ?_
  refine Cd.seq ?_
  refine Cd.region ?_
  refine Seq.val (Runs.assign rfl rfl) rfl rfl rfl ?_
  refine Seq.nil ?_
  refine Post.weak (F' := [(0, _), (2, _)]) ⟨rfl, rfl, trivial⟩ ?_
  refine Post.then_ ?_
  refine Cd.seq ?_
  refine Cd.region ?_
  refine Seq.val (Runs.move rfl rfl) rfl rfl rfl ?_
  refine Seq.val (Runs.neqL (a := l) (b := []) rfl rfl rfl hl (fun x hx => by simp at hx)) rfl rfl rfl ?_
  refine Seq.val (Runs.move rfl rfl) rfl rfl rfl ?_
  refine SeqC.start ?_
  refine SeqC.open rfl rfl rfl rfl rfl rfl rfl (fun hcx => Runs.move rfl rfl) ?_
  refine SeqC.next rfl rfl rfl rfl rfl rfl rfl (fun hcx => Runs.lenL rfl rfl Tryz.underlying9) ?_
  refine SeqC.next rfl rfl rfl rfl rfl rfl rfl (fun hcx => Runs.leq rfl rfl rfl) ?_
  refine SeqC.and rfl rfl rfl rfl rfl rfl rfl ?_
  refine Seq.val (Runs.move rfl rfl) rfl rfl rfl ?_
  refine SeqC.start ?_
  refine SeqC.open rfl rfl rfl rfl rfl rfl rfl (fun hcx => Runs.move rfl rfl) ?_
  refine SeqC.next rfl rfl rfl rfl rfl rfl rfl (fun hcx => Runs.indexL (l := l) (j := 0) (c := c0) rfl rfl rfl Tryz.underlying9 rfl (h0 (by simp [topX] at hcx; exact hcx.1)) h1) ?_
  refine SeqC.nextC rfl rfl rfl rfl rfl rfl rfl (fun hcx => Enters.func rfl rfl rfl (run_enter Tryz.func80 (by kernel_rfl) rfl)) (fun hcx => letter_any _ _) ?_
  intro w1 hw1
  replace bel := bel.step hw1
  refine SeqC.and rfl rfl rfl rfl rfl rfl rfl ?_
  refine Seq.val (Runs.move rfl rfl) rfl rfl rfl ?_
  refine SeqC.start ?_
  refine SeqC.open rfl rfl rfl rfl rfl rfl rfl (fun hcx => Runs.move rfl rfl) ?_
  refine SeqC.nextC rfl rfl rfl rfl rfl rfl rfl (fun hcx => Enters.func rfl rfl rfl (run_enter Tryz.func81 (by kernel_rfl) rfl)) (fun hcx => run_part l _ hl hlen) ?_
  intro w2 hw2
  replace bel := bel.step hw2
  refine SeqC.next rfl rfl rfl rfl rfl rfl rfl (fun hcx => Runs.move rfl rfl) ?_
  refine SeqC.next rfl rfl rfl rfl rfl rfl rfl (fun hcx => Runs.lenL rfl rfl Tryz.underlying9) ?_
  refine SeqC.next rfl rfl rfl rfl rfl rfl rfl (fun hcx => Runs.eqlI rfl rfl rfl) ?_
  refine SeqC.and rfl rfl rfl rfl rfl rfl rfl ?_
  refine Seq.val (Runs.assign rfl rfl) rfl rfl rfl ?_
  refine Seq.nil ?_
  refine Post.weak (F' := [(0, _), (2, _)]) ⟨rfl, rfl, trivial⟩ ?_
  refine Post.then_ ?_
  refine Cd.ret ?_
  refine Post.end1 rfl rfl (.inl rfl) ?_
  refine ⟨ret1 (bool_eq ?_), bel⟩
  rw [Bool.eq_iff_iff]
  simp
  constructor
  · rintro ⟨⟨⟨a, b⟩, c⟩, d⟩
    exact ⟨⟨⟨a, by omega⟩, c⟩, by omega⟩
  · rintro ⟨⟨⟨a, b⟩, c⟩, d⟩
    exact ⟨⟨⟨a, by omega⟩, c⟩, by omega⟩
end Go.Proofs.YtenikchlnfhikaaGreatDoor

namespace Go.Proofs.YtenikchlnfhikaaGreatDoor
open Go.RowKit
variable [Inhabited (List Deferred)]

/-- A place in the chain; how much of it is done. -/
def posC : List Nat → Nat → Option Nat
  | [], _ => none
  | x :: r, k => bif Nat.beq x k then some 0 else (match posC r k with | some c => some (c + 1) | none => none)
def cntC (S : Nat → Bool) : List Nat → Nat
  | [] => 0
  | c :: r => bif S c then cntC S r + 1 else 0
def updC (S : Nat → Bool) (i : Nat) : Nat → Bool := fun j => if j = i then true else S j
def chkChain (ops : List Oper) : List Nat → Bool
  | [] => true
  | a :: r => (match r with
    | [] => true
    | b :: _ => (match ops[b]? with | some o => memB (direct o) a | none => false)) && chkChain ops r
def nextC (CH : List Nat) (k c : Nat) : Nat := match posC CH k with | some _ => c + 1 | none => c
section
variable {ops : List Oper} {S : Nat → Bool} {i : Nat} {o : Oper}
end

section
variable (P : Program) (ops : Array Oper) (Q : Exit → Act → World → Prop) (n : Nat) (F0 : List (Nat × Value)) (G : World → World → Prop) (w0 : World) (CH : List Nat) (J : Nat → World → Prop)
def StepJ (k : Nat) (Γ : Env) (o : Oper) (f : Fact) : Prop := ∀ a w c, a.tmps.size = n → G w0 w → J c w → (∀ c', posC CH k = some c' → c = c') → Facts Γ (· ∈ direct o) a w → (∀ t v, look F0 t = some v → a.tmps[t]? = some v) →
  if Region.wanted o (yielded ops a.tmps) then o.wp P a w (fun a' w' => ∃ u, a' = a.put o.dst u ∧ G w w' ∧ f.holds u w' ∧ J (nextC CH k c) w') Q else f.holds undef w ∧ J (nextC CH k c) w
def DrJ (L : List Nat) (B : Env → Prop) : Nat → List Oper → Env → Prop
  | _, [], Γ => B Γ
  | k, o :: r, Γ => ∃ f, Fact.Stable G f ∧ StepJ P ops Q n F0 G w0 CH J k Γ o f ∧ (memB L k = true → Late P ops n F0 G w0 [] (fun _ => True) Γ o f) ∧ DrJ L B (k + 1) r ((k, o.dst, f) :: Γ)
end

section
variable {P : Program} {ops : Array Oper} {Q : Exit → Act → World → Prop} {n : Nat} {F0 : List (Nat × Value)} {G : World → World → Prop} {w0 : World} {CH : List Nat} {J : Nat → World → Prop}
theorem DrJ.out {L : List Nat} {B : Env → Prop} : ∀ (l : List Oper) (k : Nat) (Γ : Env), (∀ j, k ≤ j → Env.find Γ j = none) → DrJ P ops Q n F0 G w0 CH J L B k l Γ →
    ∃ Γ', B Γ' ∧ (∀ j, j < k → Env.find Γ' j = Env.find Γ j) ∧ (∀ j, k + l.length ≤ j → Env.find Γ' j = none) ∧
      ∀ i o, l[i]? = some o → ∃ f Γi, Env.find Γ' (k + i) = some (o.dst, f) ∧ Fact.Stable G f ∧ StepJ P ops Q n F0 G w0 CH J (k + i) Γi o f ∧ (memB L (k + i) = true → Late P ops n F0 G w0 [] (fun _ => True) Γi o f) ∧ ∀ j, j < k + i → Env.find Γi j = Env.find Γ' j
  | [], k, Γ, hk, h => ⟨Γ, h, fun _ _ => rfl, fun j hj => hk j (by simpa using hj), fun i o ho => by simp at ho⟩
  | o :: r, k, Γ, hk, h => by
    obtain ⟨f, hs, hstep, hlate, hr⟩ := h
    have hne : ∀ j, j ≠ k → Env.find ((k, o.dst, f) :: Γ) j = Env.find Γ j := fun j hj => by
      show (bif Nat.beq k j then some (o.dst, f) else Env.find Γ j) = _
      cases hb : Nat.beq k j with
      | true => exact absurd (Nat.eq_of_beq_eq_true hb).symm hj
      | false => rfl
    have heq : Env.find ((k, o.dst, f) :: Γ) k = some (o.dst, f) := by
      show (bif Nat.beq k k then some (o.dst, f) else Env.find Γ k) = _
      rw [Nat.beq_refl]; rfl
    obtain ⟨Γ', h1, h2, h3, h4⟩ := DrJ.out r (k + 1) _ (fun j hj => by rw [hne j (by omega)]; exact hk j (by omega)) hr
    refine ⟨Γ', h1, fun j hj => by rw [h2 j (by omega), hne j (by omega)], fun j hj => h3 j (by simp at hj; omega), fun i o' ho => ?_⟩
    cases i with
    | zero =>
      obtain rfl : o = o' := by simpa using ho
      exact ⟨f, Γ, by rw [Nat.add_zero, h2 k (by omega), heq], hs, by rw [Nat.add_zero]; exact hstep, by rw [Nat.add_zero]; exact hlate, fun j hj => by rw [h2 j (by omega), hne j (by omega)]⟩
    | succ i =>
      obtain ⟨f', Γi, a1, a2, a3, al, a4⟩ := h4 i o' (by simpa using ho)
      exact ⟨f', Γi, by rw [show k + (i + 1) = k + 1 + i from by omega]; exact a1, a2, by rw [show k + (i + 1) = k + 1 + i from by omega]; exact a3, by rw [show k + (i + 1) = k + 1 + i from by omega]; exact al, fun j hj => a4 j (by omega)⟩

end
section
variable {P : Program} {ops : Array Oper} {Q : Exit → Act → World → Prop} {n : Nat} {F0 : List (Nat × Value)} {G : World → World → Prop} {w0 : World} {CH : List Nat} {J : Nat → World → Prop} {L : List Nat} {B : Env → Prop} {k : Nat} {Γ : Env} {o : Oper} {r : List Oper} {v : Value} {f : Fact} {Φ : Value → World → Prop}
/-- An operation that leaves the world as it is. -/
theorem DJ.val (hp : posC CH k = none) (Gr : ∀ w, G w w) (hu : uniq Γ = true) (hrun : ∀ w, G w0 w → Runs P (evX [] F0 Γ o) o w v w) (hg : o.guard = none) (hr : DrJ P ops Q n F0 G w0 CH J L B (k + 1) r ((k, o.dst, .eq v) :: Γ)) (hl : memB L k = false := by rfl) : DrJ P ops Q n F0 G w0 CH J L B k (o :: r) Γ :=
  ⟨.eq v, trivial, (by
    intro a w c h1 h2 h3 h4 h5 h6
    rw [if_pos (by simp [Region.wanted, hg])]
    unfold Oper.wp
    rw [hrun w h2 a.eval (evX_spec hu h5 h6 (fun t v ht => by cases ht)), Oper.upon_value]
    refine ⟨v, rfl, Gr w, rfl, ?_⟩
    unfold nextC
    rw [hp]
    exact h3), (fun h => by rw [hl] at h; cases h), hr⟩
theorem DJ.late (hp : posC CH k = none) (hl : memB L k = true) (hu : uniq Γ = true) (hrun : ∀ w, Runs P (evX [] F0 Γ o) o w v w) (Gr : ∀ w, G w w) (hg : o.guard = none) (hr : DrJ P ops Q n F0 G w0 CH J L B (k + 1) r ((k, o.dst, .eq v) :: Γ)) : DrJ P ops Q n F0 G w0 CH J L B k (o :: r) Γ :=
  ⟨.eq v, trivial, (by
    intro a w c h1 h2 h3 h4 h5 h6
    rw [if_pos (by simp [Region.wanted, hg])]
    unfold Oper.wp
    rw [hrun w a.eval (evX_spec hu h5 h6 (fun t v ht => by cases ht)), Oper.upon_value]
    refine ⟨v, rfl, Gr w, rfl, ?_⟩
    unfold nextC
    rw [hp]
    exact h3), (fun _ => ⟨v, rfl, fun a w _ _ _ h4 h5 h6 => .inl ⟨by simp [Region.wanted, hg], fun w' => hrun w' a.eval (evX_spec hu h4 h5 h6)⟩⟩), hr⟩
/-- A call of the chain. -/
theorem DJ.chain {fn : FuncId} {args : Array Value} (c : Nat) (hp : posC CH k = some c) (hu : uniq Γ = true) (he : ∀ w, Enters P (evX [] F0 Γ o) o w fn args) (hg : o.guard = none) (hc : ∀ w, G w0 w → J c w → Calls P fn args w fun e w' => e = .returned v ∧ G w w' ∧ J (c + 1) w')
    (hr : DrJ P ops Q n F0 G w0 CH J L B (k + 1) r ((k, o.dst, .eq v) :: Γ)) (hl : memB L k = false := by rfl) : DrJ P ops Q n F0 G w0 CH J L B k (o :: r) Γ :=
  ⟨.eq v, trivial, (by
    intro a w c2 h1 h2 h3 h4 h5 h6
    rw [if_pos (by simp [Region.wanted, hg])]
    obtain rfl := h4 c hp
    unfold Oper.wp
    rw [he w a.eval (evX_spec hu h5 h6 (fun t v ht => by cases ht)), Oper.upon_enter]
    exact (hc w h2 h3).mono fun e w' ⟨e1, e2, e3⟩ => by
      subst e1
      refine ⟨v, rfl, e2, rfl, ?_⟩
      unfold nextC
      rw [hp]
      exact e3), (fun h => by rw [hl] at h; cases h), hr⟩
/-- An operation that makes memory, or a call that leaves all there is. -/
theorem DJ.of (hp : posC CH k = none) (hGG : ∀ w w', Grow w w' → G w w') (hJ : ∀ c w w', Grow w w' → J c w → J c w') (hs : Fact.Stable G f) (h : ∀ w, G w0 w → DrW P ops Q n F0 Grow w L (fun Γ' => Γ' = (k, o.dst, f) :: Γ) k [o] Γ)
    (hr : DrJ P ops Q n F0 G w0 CH J L B (k + 1) r ((k, o.dst, f) :: Γ)) (hl : memB L k = false := by rfl) : DrJ P ops Q n F0 G w0 CH J L B k (o :: r) Γ :=
  ⟨f, hs, (by
    intro a w c h1 h2 h3 h4 h5 h6
    obtain ⟨f', -, hst, -, hB⟩ := h w h2
    have hf : f' = f := by
      have hB' : (k, o.dst, f') :: Γ = (k, o.dst, f) :: Γ := hB
      injection hB' with hB' _
      injection hB' with _ hB'
      injection hB'
    subst hf
    have hx := hst a w h1 (Grow.refl w) trivial h5 h6 (fun t v ht => by cases ht)
    have hn : nextC CH k c = c := by unfold nextC; rw [hp]
    rw [hn]
    split
    · rename_i hw
      rw [if_pos hw] at hx
      exact Oper.wp_mono (fun a' w' ⟨u, e, g1, g2⟩ => ⟨u, e, hGG _ _ g1, g2, hJ _ _ _ g1 h3⟩) hx
    · rename_i hw
      rw [if_neg hw] at hx
      exact ⟨hx, h3⟩), (fun h => by rw [hl] at h; cases h), hr⟩
theorem DJ.nil (h : B Γ) : DrJ P ops Q n F0 G w0 CH J L B k [] Γ := h
end
end Go.Proofs.YtenikchlnfhikaaGreatDoor

namespace Go.Proofs.YtenikchlnfhikaaGreatDoor
open Go.RowKit
variable [Inhabited (List Deferred)]

section
variable {P : Program} {E : Operand → Option Value} {o : Oper} {w : World} {T : TypeId}
theorem Runs.sliceLit {ps : Array (Nat × Operand)} {m e s : Nat} {vs : List Value} {z : Value} (ho : o.op = .buildSlice T m ps) (hx : evP E ps.toList = some (enumF 0 vs)) (hm : vs.length = m) (hT : P.underlying T = some (.slice e)) (hs : sizeIs P e s = true) (hz : zeroIs P e = some (some z)) (hs0 : 0 < s) (hsm : m * s ≤ 16777216) (hvs : sizes s vs) :
    Runs P E o w (.slice (some ⟨w.heap.size, 0, none⟩) m m) (w.alloc (.cells (flatC vs).toArray e)) := by
  obtain ⟨i, hi, hsz⟩ := sizeIs_spec hs
  have hz' : i.zero = some z := by unfold zeroIs at hz; rw [hi] at hz; injection hz
  subst hm
  rcases Nat.eq_zero_or_pos vs.length with h0 | h0
  · have : vs = [] := List.eq_nil_of_length_eq_zero h0
    subst this
    refine Runs.buildSlice ho hx ?_
    simp [Instr.buildSlice, run_underlying hT, sizeOf, typeInfo, hi, enumF, Instr.fill, newRow, flatC]
    have : Array.map (fun (_ : Nat) => (default : Value)) (Array.range 0) = #[] := Array.eq_empty_of_size_eq_zero (by simp)
    rw [this]
  · refine Runs.buildSlice ho hx (run_buildSlice w T e vs.length _ _ i z hT hi hz' (by rw [hsz]; omega) (by rw [hsz]; exact Nat.ne_of_gt (Nat.mul_pos h0 hs0)) ?_)
    rw [hsz, enumF_zip, ← flatC_eq]
    exact Great.fill_whole hs0 vs _ (sizes_spec hvs) (by simp)
end
theorem Dr.slice {P : Program} {ops : Array Oper} {Q : Exit → Act → World → Prop} {n : Nat} {F0 : List (Nat × Value)} {w0 : World} {Γ : Env} {o : Oper} {r : List Oper} {B : Env → Prop} {L : List Nat} {k T : Nat} {ps : Array (Nat × Operand)} {m e s : Nat} {vs : List Value} {z : Value} (hu : uniq Γ = true) (ho : o.op = .buildSlice T m ps) (hx : evP (evX [] F0 Γ o) ps.toList = some (enumF 0 vs)) (hm : vs.length = m) (hT : P.underlying T = some (.slice e)) (hs : sizeIs P e s = true) (hz : zeroIs P e = some (some z)) (hs0 : 0 < s) (hsm : m * s ≤ 16777216) (hvs : sizes s vs) (hg : o.guard = none)
    (hr : DrW P ops Q n F0 Grow w0 L B (k + 1) r ((k, o.dst, .sat (NewSl w0.heap.size m e (flatC vs).toArray)) :: Γ)) (hl : memB L k = false := by rfl) : DrW P ops Q n F0 Grow w0 L B k (o :: r) Γ :=
  Dr.make hu NewSl.stable hg (fun w hG => ⟨_, _, Runs.sliceLit ho hx hm hT hs hz hs0 hsm hvs, (new_of w _ _).below, _, rfl, (new_of w _ _).blk, hG.size⟩) hr hl
theorem DJ.slice {P : Program} {ops : Array Oper} {Q : Exit → Act → World → Prop} {n : Nat} {F0 : List (Nat × Value)} {G : World → World → Prop} {w0 : World} {CH : List Nat} {J : Nat → World → Prop} {Γ : Env} {o : Oper} {r : List Oper} {B : Env → Prop} {L : List Nat} {k T : Nat} {ps : Array (Nat × Operand)} {m e s : Nat} {vs : List Value} {z : Value} (B0 : Nat) (hp : posC CH k = none) (hGG : ∀ w w', Grow w w' → G w w') (hGs : ∀ w, G w0 w → B0 ≤ w.heap.size) (hJ : ∀ c w w', Grow w w' → J c w → J c w') (hst : ∀ v w w', G w w' → NewSl B0 m e (flatC vs).toArray v w → NewSl B0 m e (flatC vs).toArray v w')
    (hu : uniq Γ = true) (ho : o.op = .buildSlice T m ps) (hx : evP (evX [] F0 Γ o) ps.toList = some (enumF 0 vs)) (hm : vs.length = m) (hT : P.underlying T = some (.slice e)) (hs : sizeIs P e s = true) (hz : zeroIs P e = some (some z)) (hs0 : 0 < s) (hsm : m * s ≤ 16777216) (hvs : sizes s vs) (hg : o.guard = none)
    (hr : DrJ P ops Q n F0 G w0 CH J L B (k + 1) r ((k, o.dst, .sat (NewSl B0 m e (flatC vs).toArray)) :: Γ)) (hl : memB L k = false := by rfl) : DrJ P ops Q n F0 G w0 CH J L B k (o :: r) Γ :=
  DJ.of (f := .sat (NewSl B0 m e (flatC vs).toArray)) hp hGG hJ hst (fun w hG => Dr.make hu NewSl.stable hg (fun w2 hG2 => ⟨_, _, Runs.sliceLit ho hx hm hT hs hz hs0 hsm hvs, (new_of w2 _ _).below, _, rfl, (new_of w2 _ _).blk, Nat.le_trans (hGs w hG) hG2.size⟩) rfl hl) hr hl
end Go.Proofs.YtenikchlnfhikaaGreatDoor

namespace Go.Proofs.YtenikchlnfhikaaGreatDoor
open Go.RowKit

/-- An event. -/
structure Ev where
  kind : Int
  id : List Nat
  a : List Nat
  b : List Nat
  text : List Nat
  day : Int
  at_ : Int
  which : Int
  n : Int
deriving DecidableEq
def Ev.v (e : Ev) : Value := .agg #[.int .i64 e.kind, .string (strOf e.id), .string (strOf e.a), .string (strOf e.b), .string (strOf e.text), .int .i64 e.day, .int .i64 e.at_, .int .i64 e.which, .int .i64 e.n]
structure Ev.rng (e : Ev) : Prop where
  kind : I64 e.kind
  id : ∀ x ∈ e.id, x < 256
  a : ∀ x ∈ e.a, x < 256
  b : ∀ x ∈ e.b, x < 256
  text : ∀ x ∈ e.text, x < 256
  day : I64 e.day
  at_ : I64 e.at_
  which : I64 e.which
  n : I64 e.n
  lid : e.id.length ≤ 9223372036854775807
  la : e.a.length ≤ 9223372036854775807
  lb : e.b.length ≤ 9223372036854775807
  ltext : e.text.length ≤ 9223372036854775807
theorem zero_event_Event : zeroIs Tryz.prog 97 = some (some (.agg #[.int .i64 0, .string { data := #[] }, .string { data := #[] }, .string { data := #[] }, .string { data := #[] }, .int .i64 0, .int .i64 0, .int .i64 0, .int .i64 0])) := by kernel_rfl
def Ev.same (a b : Ev) : Bool := a.kind == b.kind && ((strOf a.id).toList == (strOf b.id).toList && ((strOf a.a).toList == (strOf b.a).toList && ((strOf a.b).toList == (strOf b.b).toList && ((strOf a.text).toList == (strOf b.text).toList && (a.day == b.day && (a.at_ == b.at_ && (a.which == b.which && a.n == b.n)))))))
set_option maxRecDepth 100000 in
theorem run_neq_ev (a b : Ev) (w : World) : (binOp .neq 97 a.v b.v).run Tryz.prog w = .ok (.bool (!(a.same b))) w := by
  have hu := Tryz.underlying97
  unfold Ev.same Ev.v
  go_simp
  repeat' split
  all_goals simp_all
theorem same_ev {a b : Ev} (ha : a.rng) (hb : b.rng) : a.same b = decide (a = b) := by
  unfold Ev.same
  rw [strOf_beq ha.id hb.id, strOf_beq ha.a hb.a, strOf_beq ha.b hb.b, strOf_beq ha.text hb.text, Bool.eq_iff_iff]
  cases a
  cases b
  simp
theorem guard_ev (op : BinOp) (x y : Operand) (a b : Array Value) (w : World) : (eqGuard op 97 x y (.agg a) (.agg b)).run Tryz.prog w = .ok () w := by
  have h : Tryz.prog.eqGuardType Tryz.prog.depth 97 = false := by kernel_rfl
  cases op <;> simp [eqGuard, program, h, Sem.run_bind, Sem.run]
/-- An event without the fields that its kind has. -/
def blankE (e : Ev) : Ev :=
  if e.kind = 1 then { e with id := [], a := [], b := [], text := [], day := 0 }
  else if e.kind = 2 then { e with day := 0 }
  else if e.kind = 3 then { e with a := [], day := 0, n := 0 }
  else if e.kind = 4 then { e with id := [], a := [], at_ := 0, which := 0 }
  else if e.kind = 5 then { e with id := [], a := [], b := [] }
  else if e.kind = 6 then { e with id := [], a := [] }
  else if e.kind = 7 then { e with id := [] }
  else e
set_option maxHeartbeats 2000000 in
theorem blank_ev (e : Ev) (w : World) : Calls Tryz.prog 83 #[e.v] w fun en w' => en = .returned (blankE e).v ∧ Grow w w' := by
  have bel := Below.refl w.heap.size w
  unfold Ev.v blankE
  refine Calls.start 39 Tryz.func83 rfl rfl rfl ?_
  refine Cd.seq ?_
  refine Cd.region ?_
  refine Seq.box rfl rfl rfl rfl rfl ?_
  intro g1 w1 n1
  have e1 := Nat.le_trans bel.size n1.ge
  replace bel := bel.step n1.below
  have k1 := n1.blk
  refine Seq.alloc rfl (run_zero zero_event_Event) rfl rfl rfl ?_
  intro g2 w2 n2
  have e2 := Nat.le_trans bel.size n2.ge
  have l2 := Nat.lt_of_lt_of_le k1.lt n2.ge
  replace bel := bel.step n2.below
  replace k1 := k1.step n2.below
  have k2 := n2.blk
  refine Seq.nil ?_
  refine Post.weak (F' := [(0, _), (1, _), (2, _)]) ⟨rfl, rfl, rfl, trivial⟩ ?_
  refine Post.then_ ?_
  refine Cd.seq ?_
  refine Cd.seq ?_
  refine Cd.region ?_
  refine Seq.val (Runs.fieldB 0 rfl rfl Tryz.underlying97 rfl (by kernel_rfl)) rfl rfl rfl ?_
  refine Seq.val (Runs.loadB rfl rfl Tryz.underlying3 rfl k1 rfl) rfl rfl rfl ?_
  refine Seq.nil ?_
  refine Post.weak (F' := [(0, _), (1, _), (2, _), (4, _)]) ⟨rfl, rfl, rfl, rfl, trivial⟩ ?_
  refine Post.then_ ?_
  refine Cd.block ?_
  refine Cd.seq ?_
  refine Cd.region ?_
  refine Seq.val (Runs.eqlI rfl rfl rfl) rfl rfl rfl ?_
  refine Seq.val (Runs.assign rfl rfl) rfl rfl rfl ?_
  refine Seq.nil ?_
  refine Post.weak (F' := [(0, _), (1, _), (2, _), (4, _), (5, _)]) ⟨rfl, rfl, rfl, rfl, rfl, trivial⟩ ?_
  refine Post.then_ ?_
  refine Cd.condD rfl (fun h1 => ?_) (fun h1 => ?_)
  · skip
    refine Cd.region ?_
    refine Seq.val (Runs.fieldB 1 rfl rfl Tryz.underlying97 rfl (by kernel_rfl)) rfl rfl rfl ?_
    refine Seq.store1 rfl rfl rfl (by kernel_rfl) rfl rfl k1 rfl rfl rfl ?_
    intro w3 pw3
    replace bel := bel.put k1 pw3 e1
    replace k2 := k2.put pw3 (by omega)
    replace k1 := pw3.blk
    refine Seq.val (Runs.fieldB 2 rfl rfl Tryz.underlying97 rfl (by kernel_rfl)) rfl rfl rfl ?_
    refine Seq.store1 rfl rfl rfl (by kernel_rfl) rfl rfl k1 rfl rfl rfl ?_
    intro w4 pw4
    replace bel := bel.put k1 pw4 e1
    replace k2 := k2.put pw4 (by omega)
    replace k1 := pw4.blk
    refine Seq.val (Runs.fieldB 3 rfl rfl Tryz.underlying97 rfl (by kernel_rfl)) rfl rfl rfl ?_
    refine Seq.store1 rfl rfl rfl (by kernel_rfl) rfl rfl k1 rfl rfl rfl ?_
    intro w5 pw5
    replace bel := bel.put k1 pw5 e1
    replace k2 := k2.put pw5 (by omega)
    replace k1 := pw5.blk
    refine Seq.val (Runs.fieldB 4 rfl rfl Tryz.underlying97 rfl (by kernel_rfl)) rfl rfl rfl ?_
    refine Seq.store1 rfl rfl rfl (by kernel_rfl) rfl rfl k1 rfl rfl rfl ?_
    intro w6 pw6
    replace bel := bel.put k1 pw6 e1
    replace k2 := k2.put pw6 (by omega)
    replace k1 := pw6.blk
    refine Seq.val (Runs.fieldB 5 rfl rfl Tryz.underlying97 rfl (by kernel_rfl)) rfl rfl rfl ?_
    refine Seq.store1 rfl rfl rfl (by kernel_rfl) rfl rfl k1 rfl rfl rfl ?_
    intro w7 pw7
    replace bel := bel.put k1 pw7 e1
    replace k2 := k2.put pw7 (by omega)
    replace k1 := pw7.blk
    refine Seq.nil ?_
    refine Post.weak (F' := [(0, _), (1, _), (2, _), (4, _), (5, _)]) ⟨rfl, rfl, rfl, rfl, rfl, trivial⟩ ?_
    refine Post.block_normal ?_
    refine Post.then_ ?_
    refine Cd.seq ?_
    refine Cd.region ?_
    refine Seq.val (Runs.loadW rfl rfl Tryz.underlying97 rfl k1 (m := 9) (by kernel_rfl) rfl) rfl rfl rfl ?_
    refine Seq.storeN rfl rfl rfl rfl (m := 9) (by kernel_rfl) rfl (by repeat' first | exact trivial | apply And.intro | rfl | assumption) k2 (by simp [Value.cells]) rfl rfl ?_
    intro w8 pw8
    replace bel := bel.put k2 pw8 e2
    replace k1 := k1.put pw8 (by omega)
    replace k2 := pw8.blk
    refine Seq.nil ?_
    refine Post.weak (F' := [(0, _), (1, _), (2, _), (4, _), (5, _)]) ⟨rfl, rfl, rfl, rfl, rfl, trivial⟩ ?_
    refine Post.then_ ?_
    refine Cd.ret ?_
    refine Post.endC rfl rfl k2 Tryz.underlying97 rfl (m := 9) (by kernel_rfl) rfl (.inl rfl) ?_
    rw [if_pos h1]
    exact ⟨rfl, bel⟩
  refine Cd.seq ?_
  refine Cd.region ?_
  refine Seq.val (Runs.eqlI rfl rfl rfl) rfl rfl rfl ?_
  refine Seq.val (Runs.assign rfl rfl) rfl rfl rfl ?_
  refine Seq.nil ?_
  refine Post.weak (F' := [(0, _), (1, _), (2, _), (4, _), (5, _), (12, _)]) ⟨rfl, rfl, rfl, rfl, rfl, rfl, trivial⟩ ?_
  refine Post.then_ ?_
  refine Cd.condD rfl (fun h2 => ?_) (fun h2 => ?_)
  · skip
    refine Cd.region ?_
    refine Seq.val (Runs.fieldB 5 rfl rfl Tryz.underlying97 rfl (by kernel_rfl)) rfl rfl rfl ?_
    refine Seq.store1 rfl rfl rfl (by kernel_rfl) rfl rfl k1 rfl rfl rfl ?_
    intro w3 pw3
    replace bel := bel.put k1 pw3 e1
    replace k2 := k2.put pw3 (by omega)
    replace k1 := pw3.blk
    refine Seq.nil ?_
    refine Post.weak (F' := [(0, _), (1, _), (2, _), (4, _), (5, _), (12, _)]) ⟨rfl, rfl, rfl, rfl, rfl, rfl, trivial⟩ ?_
    refine Post.block_normal ?_
    refine Post.then_ ?_
    refine Cd.seq ?_
    refine Cd.region ?_
    refine Seq.val (Runs.loadW rfl rfl Tryz.underlying97 rfl k1 (m := 9) (by kernel_rfl) rfl) rfl rfl rfl ?_
    refine Seq.storeN rfl rfl rfl rfl (m := 9) (by kernel_rfl) rfl (by repeat' first | exact trivial | apply And.intro | rfl | assumption) k2 (by simp [Value.cells]) rfl rfl ?_
    intro w4 pw4
    replace bel := bel.put k2 pw4 e2
    replace k1 := k1.put pw4 (by omega)
    replace k2 := pw4.blk
    refine Seq.nil ?_
    refine Post.weak (F' := [(0, _), (1, _), (2, _), (4, _), (5, _), (12, _)]) ⟨rfl, rfl, rfl, rfl, rfl, rfl, trivial⟩ ?_
    refine Post.then_ ?_
    refine Cd.ret ?_
    refine Post.endC rfl rfl k2 Tryz.underlying97 rfl (m := 9) (by kernel_rfl) rfl (.inl rfl) ?_
    rw [if_neg h1]; rw [if_pos h2]
    exact ⟨rfl, bel⟩
  refine Cd.seq ?_
  refine Cd.region ?_
  refine Seq.val (Runs.eqlI rfl rfl rfl) rfl rfl rfl ?_
  refine Seq.val (Runs.assign rfl rfl) rfl rfl rfl ?_
  refine Seq.nil ?_
  refine Post.weak (F' := [(0, _), (1, _), (2, _), (4, _), (5, _), (12, _), (15, _)]) ⟨rfl, rfl, rfl, rfl, rfl, rfl, rfl, trivial⟩ ?_
  refine Post.then_ ?_
  refine Cd.condD rfl (fun h3 => ?_) (fun h3 => ?_)
  · skip
    refine Cd.region ?_
    refine Seq.val (Runs.fieldB 2 rfl rfl Tryz.underlying97 rfl (by kernel_rfl)) rfl rfl rfl ?_
    refine Seq.store1 rfl rfl rfl (by kernel_rfl) rfl rfl k1 rfl rfl rfl ?_
    intro w3 pw3
    replace bel := bel.put k1 pw3 e1
    replace k2 := k2.put pw3 (by omega)
    replace k1 := pw3.blk
    refine Seq.val (Runs.fieldB 5 rfl rfl Tryz.underlying97 rfl (by kernel_rfl)) rfl rfl rfl ?_
    refine Seq.store1 rfl rfl rfl (by kernel_rfl) rfl rfl k1 rfl rfl rfl ?_
    intro w4 pw4
    replace bel := bel.put k1 pw4 e1
    replace k2 := k2.put pw4 (by omega)
    replace k1 := pw4.blk
    refine Seq.val (Runs.fieldB 8 rfl rfl Tryz.underlying97 rfl (by kernel_rfl)) rfl rfl rfl ?_
    refine Seq.store1 rfl rfl rfl (by kernel_rfl) rfl rfl k1 rfl rfl rfl ?_
    intro w5 pw5
    replace bel := bel.put k1 pw5 e1
    replace k2 := k2.put pw5 (by omega)
    replace k1 := pw5.blk
    refine Seq.nil ?_
    refine Post.weak (F' := [(0, _), (1, _), (2, _), (4, _), (5, _), (12, _), (15, _)]) ⟨rfl, rfl, rfl, rfl, rfl, rfl, rfl, trivial⟩ ?_
    refine Post.block_normal ?_
    refine Post.then_ ?_
    refine Cd.seq ?_
    refine Cd.region ?_
    refine Seq.val (Runs.loadW rfl rfl Tryz.underlying97 rfl k1 (m := 9) (by kernel_rfl) rfl) rfl rfl rfl ?_
    refine Seq.storeN rfl rfl rfl rfl (m := 9) (by kernel_rfl) rfl (by repeat' first | exact trivial | apply And.intro | rfl | assumption) k2 (by simp [Value.cells]) rfl rfl ?_
    intro w6 pw6
    replace bel := bel.put k2 pw6 e2
    replace k1 := k1.put pw6 (by omega)
    replace k2 := pw6.blk
    refine Seq.nil ?_
    refine Post.weak (F' := [(0, _), (1, _), (2, _), (4, _), (5, _), (12, _), (15, _)]) ⟨rfl, rfl, rfl, rfl, rfl, rfl, rfl, trivial⟩ ?_
    refine Post.then_ ?_
    refine Cd.ret ?_
    refine Post.endC rfl rfl k2 Tryz.underlying97 rfl (m := 9) (by kernel_rfl) rfl (.inl rfl) ?_
    rw [if_neg h1]; rw [if_neg h2]; rw [if_pos h3]
    exact ⟨rfl, bel⟩
  refine Cd.seq ?_
  refine Cd.region ?_
  refine Seq.val (Runs.eqlI rfl rfl rfl) rfl rfl rfl ?_
  refine Seq.val (Runs.assign rfl rfl) rfl rfl rfl ?_
  refine Seq.nil ?_
  refine Post.weak (F' := [(0, _), (1, _), (2, _), (4, _), (5, _), (12, _), (15, _), (20, _)]) ⟨rfl, rfl, rfl, rfl, rfl, rfl, rfl, rfl, trivial⟩ ?_
  refine Post.then_ ?_
  refine Cd.condD rfl (fun h4 => ?_) (fun h4 => ?_)
  · skip
    refine Cd.region ?_
    refine Seq.val (Runs.fieldB 1 rfl rfl Tryz.underlying97 rfl (by kernel_rfl)) rfl rfl rfl ?_
    refine Seq.store1 rfl rfl rfl (by kernel_rfl) rfl rfl k1 rfl rfl rfl ?_
    intro w3 pw3
    replace bel := bel.put k1 pw3 e1
    replace k2 := k2.put pw3 (by omega)
    replace k1 := pw3.blk
    refine Seq.val (Runs.fieldB 2 rfl rfl Tryz.underlying97 rfl (by kernel_rfl)) rfl rfl rfl ?_
    refine Seq.store1 rfl rfl rfl (by kernel_rfl) rfl rfl k1 rfl rfl rfl ?_
    intro w4 pw4
    replace bel := bel.put k1 pw4 e1
    replace k2 := k2.put pw4 (by omega)
    replace k1 := pw4.blk
    refine Seq.val (Runs.fieldB 6 rfl rfl Tryz.underlying97 rfl (by kernel_rfl)) rfl rfl rfl ?_
    refine Seq.store1 rfl rfl rfl (by kernel_rfl) rfl rfl k1 rfl rfl rfl ?_
    intro w5 pw5
    replace bel := bel.put k1 pw5 e1
    replace k2 := k2.put pw5 (by omega)
    replace k1 := pw5.blk
    refine Seq.val (Runs.fieldB 7 rfl rfl Tryz.underlying97 rfl (by kernel_rfl)) rfl rfl rfl ?_
    refine Seq.store1 rfl rfl rfl (by kernel_rfl) rfl rfl k1 rfl rfl rfl ?_
    intro w6 pw6
    replace bel := bel.put k1 pw6 e1
    replace k2 := k2.put pw6 (by omega)
    replace k1 := pw6.blk
    refine Seq.nil ?_
    refine Post.weak (F' := [(0, _), (1, _), (2, _), (4, _), (5, _), (12, _), (15, _), (20, _)]) ⟨rfl, rfl, rfl, rfl, rfl, rfl, rfl, rfl, trivial⟩ ?_
    refine Post.block_normal ?_
    refine Post.then_ ?_
    refine Cd.seq ?_
    refine Cd.region ?_
    refine Seq.val (Runs.loadW rfl rfl Tryz.underlying97 rfl k1 (m := 9) (by kernel_rfl) rfl) rfl rfl rfl ?_
    refine Seq.storeN rfl rfl rfl rfl (m := 9) (by kernel_rfl) rfl (by repeat' first | exact trivial | apply And.intro | rfl | assumption) k2 (by simp [Value.cells]) rfl rfl ?_
    intro w7 pw7
    replace bel := bel.put k2 pw7 e2
    replace k1 := k1.put pw7 (by omega)
    replace k2 := pw7.blk
    refine Seq.nil ?_
    refine Post.weak (F' := [(0, _), (1, _), (2, _), (4, _), (5, _), (12, _), (15, _), (20, _)]) ⟨rfl, rfl, rfl, rfl, rfl, rfl, rfl, rfl, trivial⟩ ?_
    refine Post.then_ ?_
    refine Cd.ret ?_
    refine Post.endC rfl rfl k2 Tryz.underlying97 rfl (m := 9) (by kernel_rfl) rfl (.inl rfl) ?_
    rw [if_neg h1]; rw [if_neg h2]; rw [if_neg h3]; rw [if_pos h4]
    exact ⟨rfl, bel⟩
  refine Cd.seq ?_
  refine Cd.region ?_
  refine Seq.val (Runs.eqlI rfl rfl rfl) rfl rfl rfl ?_
  refine Seq.val (Runs.assign rfl rfl) rfl rfl rfl ?_
  refine Seq.nil ?_
  refine Post.weak (F' := [(0, _), (1, _), (2, _), (4, _), (5, _), (12, _), (15, _), (20, _), (26, _)]) ⟨rfl, rfl, rfl, rfl, rfl, rfl, rfl, rfl, rfl, trivial⟩ ?_
  refine Post.then_ ?_
  refine Cd.condD rfl (fun h5 => ?_) (fun h5 => ?_)
  · skip
    refine Cd.region ?_
    refine Seq.val (Runs.fieldB 1 rfl rfl Tryz.underlying97 rfl (by kernel_rfl)) rfl rfl rfl ?_
    refine Seq.store1 rfl rfl rfl (by kernel_rfl) rfl rfl k1 rfl rfl rfl ?_
    intro w3 pw3
    replace bel := bel.put k1 pw3 e1
    replace k2 := k2.put pw3 (by omega)
    replace k1 := pw3.blk
    refine Seq.val (Runs.fieldB 2 rfl rfl Tryz.underlying97 rfl (by kernel_rfl)) rfl rfl rfl ?_
    refine Seq.store1 rfl rfl rfl (by kernel_rfl) rfl rfl k1 rfl rfl rfl ?_
    intro w4 pw4
    replace bel := bel.put k1 pw4 e1
    replace k2 := k2.put pw4 (by omega)
    replace k1 := pw4.blk
    refine Seq.val (Runs.fieldB 3 rfl rfl Tryz.underlying97 rfl (by kernel_rfl)) rfl rfl rfl ?_
    refine Seq.store1 rfl rfl rfl (by kernel_rfl) rfl rfl k1 rfl rfl rfl ?_
    intro w5 pw5
    replace bel := bel.put k1 pw5 e1
    replace k2 := k2.put pw5 (by omega)
    replace k1 := pw5.blk
    refine Seq.nil ?_
    refine Post.weak (F' := [(0, _), (1, _), (2, _), (4, _), (5, _), (12, _), (15, _), (20, _), (26, _)]) ⟨rfl, rfl, rfl, rfl, rfl, rfl, rfl, rfl, rfl, trivial⟩ ?_
    refine Post.block_normal ?_
    refine Post.then_ ?_
    refine Cd.seq ?_
    refine Cd.region ?_
    refine Seq.val (Runs.loadW rfl rfl Tryz.underlying97 rfl k1 (m := 9) (by kernel_rfl) rfl) rfl rfl rfl ?_
    refine Seq.storeN rfl rfl rfl rfl (m := 9) (by kernel_rfl) rfl (by repeat' first | exact trivial | apply And.intro | rfl | assumption) k2 (by simp [Value.cells]) rfl rfl ?_
    intro w6 pw6
    replace bel := bel.put k2 pw6 e2
    replace k1 := k1.put pw6 (by omega)
    replace k2 := pw6.blk
    refine Seq.nil ?_
    refine Post.weak (F' := [(0, _), (1, _), (2, _), (4, _), (5, _), (12, _), (15, _), (20, _), (26, _)]) ⟨rfl, rfl, rfl, rfl, rfl, rfl, rfl, rfl, rfl, trivial⟩ ?_
    refine Post.then_ ?_
    refine Cd.ret ?_
    refine Post.endC rfl rfl k2 Tryz.underlying97 rfl (m := 9) (by kernel_rfl) rfl (.inl rfl) ?_
    rw [if_neg h1]; rw [if_neg h2]; rw [if_neg h3]; rw [if_neg h4]; rw [if_pos h5]
    exact ⟨rfl, bel⟩
  refine Cd.seq ?_
  refine Cd.region ?_
  refine Seq.val (Runs.eqlI rfl rfl rfl) rfl rfl rfl ?_
  refine Seq.val (Runs.assign rfl rfl) rfl rfl rfl ?_
  refine Seq.nil ?_
  refine Post.weak (F' := [(0, _), (1, _), (2, _), (4, _), (5, _), (12, _), (15, _), (20, _), (26, _), (31, _)]) ⟨rfl, rfl, rfl, rfl, rfl, rfl, rfl, rfl, rfl, rfl, trivial⟩ ?_
  refine Post.then_ ?_
  refine Cd.condD rfl (fun h6 => ?_) (fun h6 => ?_)
  · skip
    refine Cd.region ?_
    refine Seq.val (Runs.fieldB 1 rfl rfl Tryz.underlying97 rfl (by kernel_rfl)) rfl rfl rfl ?_
    refine Seq.store1 rfl rfl rfl (by kernel_rfl) rfl rfl k1 rfl rfl rfl ?_
    intro w3 pw3
    replace bel := bel.put k1 pw3 e1
    replace k2 := k2.put pw3 (by omega)
    replace k1 := pw3.blk
    refine Seq.val (Runs.fieldB 2 rfl rfl Tryz.underlying97 rfl (by kernel_rfl)) rfl rfl rfl ?_
    refine Seq.store1 rfl rfl rfl (by kernel_rfl) rfl rfl k1 rfl rfl rfl ?_
    intro w4 pw4
    replace bel := bel.put k1 pw4 e1
    replace k2 := k2.put pw4 (by omega)
    replace k1 := pw4.blk
    refine Seq.nil ?_
    refine Post.weak (F' := [(0, _), (1, _), (2, _), (4, _), (5, _), (12, _), (15, _), (20, _), (26, _), (31, _)]) ⟨rfl, rfl, rfl, rfl, rfl, rfl, rfl, rfl, rfl, rfl, trivial⟩ ?_
    refine Post.block_normal ?_
    refine Post.then_ ?_
    refine Cd.seq ?_
    refine Cd.region ?_
    refine Seq.val (Runs.loadW rfl rfl Tryz.underlying97 rfl k1 (m := 9) (by kernel_rfl) rfl) rfl rfl rfl ?_
    refine Seq.storeN rfl rfl rfl rfl (m := 9) (by kernel_rfl) rfl (by repeat' first | exact trivial | apply And.intro | rfl | assumption) k2 (by simp [Value.cells]) rfl rfl ?_
    intro w5 pw5
    replace bel := bel.put k2 pw5 e2
    replace k1 := k1.put pw5 (by omega)
    replace k2 := pw5.blk
    refine Seq.nil ?_
    refine Post.weak (F' := [(0, _), (1, _), (2, _), (4, _), (5, _), (12, _), (15, _), (20, _), (26, _), (31, _)]) ⟨rfl, rfl, rfl, rfl, rfl, rfl, rfl, rfl, rfl, rfl, trivial⟩ ?_
    refine Post.then_ ?_
    refine Cd.ret ?_
    refine Post.endC rfl rfl k2 Tryz.underlying97 rfl (m := 9) (by kernel_rfl) rfl (.inl rfl) ?_
    rw [if_neg h1]; rw [if_neg h2]; rw [if_neg h3]; rw [if_neg h4]; rw [if_neg h5]; rw [if_pos h6]
    exact ⟨rfl, bel⟩
  refine Cd.seq ?_
  refine Cd.region ?_
  refine Seq.val (Runs.eqlI rfl rfl rfl) rfl rfl rfl ?_
  refine Seq.val (Runs.assign rfl rfl) rfl rfl rfl ?_
  refine Seq.nil ?_
  refine Post.weak (F' := [(0, _), (1, _), (2, _), (4, _), (5, _), (12, _), (15, _), (20, _), (26, _), (31, _), (35, _)]) ⟨rfl, rfl, rfl, rfl, rfl, rfl, rfl, rfl, rfl, rfl, rfl, trivial⟩ ?_
  refine Post.then_ ?_
  refine Cd.condD rfl (fun h7 => ?_) (fun h7 => ?_)
  · skip
    refine Cd.region ?_
    refine Seq.val (Runs.fieldB 1 rfl rfl Tryz.underlying97 rfl (by kernel_rfl)) rfl rfl rfl ?_
    refine Seq.store1 rfl rfl rfl (by kernel_rfl) rfl rfl k1 rfl rfl rfl ?_
    intro w3 pw3
    replace bel := bel.put k1 pw3 e1
    replace k2 := k2.put pw3 (by omega)
    replace k1 := pw3.blk
    refine Seq.nil ?_
    refine Post.weak (F' := [(0, _), (1, _), (2, _), (4, _), (5, _), (12, _), (15, _), (20, _), (26, _), (31, _), (35, _)]) ⟨rfl, rfl, rfl, rfl, rfl, rfl, rfl, rfl, rfl, rfl, rfl, trivial⟩ ?_
    refine Post.block_normal ?_
    refine Post.then_ ?_
    refine Cd.seq ?_
    refine Cd.region ?_
    refine Seq.val (Runs.loadW rfl rfl Tryz.underlying97 rfl k1 (m := 9) (by kernel_rfl) rfl) rfl rfl rfl ?_
    refine Seq.storeN rfl rfl rfl rfl (m := 9) (by kernel_rfl) rfl (by repeat' first | exact trivial | apply And.intro | rfl | assumption) k2 (by simp [Value.cells]) rfl rfl ?_
    intro w4 pw4
    replace bel := bel.put k2 pw4 e2
    replace k1 := k1.put pw4 (by omega)
    replace k2 := pw4.blk
    refine Seq.nil ?_
    refine Post.weak (F' := [(0, _), (1, _), (2, _), (4, _), (5, _), (12, _), (15, _), (20, _), (26, _), (31, _), (35, _)]) ⟨rfl, rfl, rfl, rfl, rfl, rfl, rfl, rfl, rfl, rfl, rfl, trivial⟩ ?_
    refine Post.then_ ?_
    refine Cd.ret ?_
    refine Post.endC rfl rfl k2 Tryz.underlying97 rfl (m := 9) (by kernel_rfl) rfl (.inl rfl) ?_
    rw [if_neg h1]; rw [if_neg h2]; rw [if_neg h3]; rw [if_neg h4]; rw [if_neg h5]; rw [if_neg h6]; rw [if_pos h7]
    exact ⟨rfl, bel⟩
  refine Cd.skip ?_
  refine Post.block_normal ?_
  refine Post.then_ ?_
  refine Cd.seq ?_
  refine Cd.region ?_
  refine Seq.val (Runs.loadW rfl rfl Tryz.underlying97 rfl k1 (m := 9) (by kernel_rfl) rfl) rfl rfl rfl ?_
  refine Seq.storeN rfl rfl rfl rfl (m := 9) (by kernel_rfl) rfl (by repeat' first | exact trivial | apply And.intro | rfl | assumption) k2 (by simp [Value.cells]) rfl rfl ?_
  intro w3 pw3
  replace bel := bel.put k2 pw3 e2
  replace k1 := k1.put pw3 (by omega)
  replace k2 := pw3.blk
  refine Seq.nil ?_
  refine Post.weak (F' := [(0, _), (1, _), (2, _), (4, _), (5, _), (12, _), (15, _), (20, _), (26, _), (31, _), (35, _)]) ⟨rfl, rfl, rfl, rfl, rfl, rfl, rfl, rfl, rfl, rfl, rfl, trivial⟩ ?_
  refine Post.then_ ?_
  refine Cd.ret ?_
  refine Post.endC rfl rfl k2 Tryz.underlying97 rfl (m := 9) (by kernel_rfl) rfl (.inl rfl) ?_
  rw [if_neg h1, if_neg h2, if_neg h3, if_neg h4, if_neg h5, if_neg h6, if_neg h7]
  exact ⟨rfl, bel⟩
end Go.Proofs.YtenikchlnfhikaaGreatDoor

namespace Go.Proofs.YtenikchlnfhikaaGreatDoor
open Go.RowKit

theorem day_ev (n : Int) (w : World) : Calls Tryz.prog 86 #[.int .i64 n] w fun en w' => en = .returned (.bool (decide (0 ≤ n) && decide (n ≤ 2932896))) ∧ Grow w w' := by
  have bel := Below.refl w.heap.size w
  refine Calls.start 9 Tryz.func86 rfl rfl rfl ?_
  refine Cd.seq ?_
  refine Cd.region ?_
  refine Seq.val (Runs.assign rfl rfl) rfl rfl rfl ?_
  refine Seq.nil ?_
  refine Post.weak (F' := [(0, _), (2, _)]) ⟨rfl, rfl, trivial⟩ ?_
  refine Post.then_ ?_
  refine Cd.seq ?_
  refine Cd.region ?_
  refine Seq.val (Runs.move rfl rfl) rfl rfl rfl ?_
  refine Seq.val (Runs.geq rfl rfl rfl) rfl rfl rfl ?_
  refine Seq.val (Runs.move rfl rfl) rfl rfl rfl ?_
  refine SeqC.start ?_
  refine SeqC.open rfl rfl rfl rfl rfl rfl rfl (fun hcx => Runs.move rfl rfl) ?_
  refine SeqC.next rfl rfl rfl rfl rfl rfl rfl (fun hcx => Runs.leq rfl rfl rfl) ?_
  refine SeqC.and rfl rfl rfl rfl rfl rfl rfl ?_
  refine Seq.val (Runs.assign rfl rfl) rfl rfl rfl ?_
  refine Seq.nil ?_
  refine Post.weak (F' := [(0, _), (2, _)]) ⟨rfl, rfl, trivial⟩ ?_
  refine Post.then_ ?_
  refine Cd.ret ?_
  refine Post.end1 rfl rfl (.inl rfl) ?_
  exact ⟨rfl, bel⟩
def namedE (e : Ev) : Bool := (!(decide (e.kind ≠ 2) && decide (e.kind ≠ 3)) || namedB e.id) && (!(decide (e.kind ≠ 2) && decide (e.kind ≠ 7)) || namedB e.a) && (!(decide (e.kind = 1) || decide (e.kind = 5)) || (namedB e.b && decide (e.a ≠ e.b)))
set_option maxHeartbeats 1000000 in
theorem named_ev (e : Ev) (he : e.rng) (w : World) : Calls Tryz.prog 84 #[e.v] w fun en w' => en = .returned (.bool (namedE e)) ∧ Grow w w' := by
  have bel := Below.refl w.heap.size w
  have ha := he.a
  have hb := he.b
  have h1 := fun W => named_any e.id W he.id he.lid
  have h2 := fun W => named_any e.a W he.a he.la
  have h3 := fun W => named_any e.b W he.b he.lb
  unfold Ev.v namedE
  refine Calls.start 62 Tryz.func84 rfl rfl rfl ?_
  refine Cd.seq ?_
  refine Cd.region ?_
  refine Seq.box rfl rfl rfl rfl rfl ?_
  intro g1 w1 n1
  have e1 := Nat.le_trans bel.size n1.ge
  replace bel := bel.step n1.below
  have k1 := n1.blk
  refine Seq.val (Runs.assign rfl rfl) rfl rfl rfl ?_
  refine Seq.nil ?_
  refine Post.weak (F' := [(0, _), (1, _), (2, _)]) ⟨rfl, rfl, rfl, trivial⟩ ?_
  refine Post.then_ ?_
  refine Cd.seq ?_
  refine Cd.region ?_
  refine Seq.val (Runs.fieldB 0 rfl rfl Tryz.underlying97 rfl (by kernel_rfl)) rfl rfl rfl ?_
  refine Seq.val (Runs.loadB rfl rfl Tryz.underlying3 rfl k1 rfl) rfl rfl rfl ?_
  refine Seq.val (Runs.neqI rfl rfl rfl) rfl rfl rfl ?_
  refine Seq.val (Runs.move rfl rfl) rfl rfl rfl ?_
  refine SeqC.start ?_
  refine SeqC.open rfl rfl rfl rfl rfl rfl rfl (fun hcx => Runs.fieldB 0 rfl rfl Tryz.underlying97 rfl (by kernel_rfl)) ?_
  refine SeqC.next rfl rfl rfl rfl rfl rfl rfl (fun hcx => Runs.loadB rfl rfl Tryz.underlying3 rfl k1 rfl) ?_
  refine SeqC.next rfl rfl rfl rfl rfl rfl rfl (fun hcx => Runs.neqI rfl rfl rfl) ?_
  refine SeqC.and rfl rfl rfl rfl rfl rfl rfl ?_
  refine Seq.val (Runs.assign rfl rfl) rfl rfl rfl ?_
  refine Seq.nil ?_
  refine Post.weak (F' := [(0, _), (1, _), (2, _), (3, _)]) ⟨rfl, rfl, rfl, rfl, trivial⟩ ?_
  refine Post.then_ ?_
  refine Cd.seq ?_
  refine Cd.region ?_
  refine Seq.val (Runs.fieldB 0 rfl rfl Tryz.underlying97 rfl (by kernel_rfl)) rfl rfl rfl ?_
  refine Seq.val (Runs.loadB rfl rfl Tryz.underlying3 rfl k1 rfl) rfl rfl rfl ?_
  refine Seq.val (Runs.neqI rfl rfl rfl) rfl rfl rfl ?_
  refine Seq.val (Runs.move rfl rfl) rfl rfl rfl ?_
  refine SeqC.start ?_
  refine SeqC.open rfl rfl rfl rfl rfl rfl rfl (fun hcx => Runs.fieldB 0 rfl rfl Tryz.underlying97 rfl (by kernel_rfl)) ?_
  refine SeqC.next rfl rfl rfl rfl rfl rfl rfl (fun hcx => Runs.loadB rfl rfl Tryz.underlying3 rfl k1 rfl) ?_
  refine SeqC.next rfl rfl rfl rfl rfl rfl rfl (fun hcx => Runs.neqI rfl rfl rfl) ?_
  refine SeqC.and rfl rfl rfl rfl rfl rfl rfl ?_
  refine Seq.val (Runs.assign rfl rfl) rfl rfl rfl ?_
  refine Seq.nil ?_
  refine Post.weak (F' := [(0, _), (1, _), (2, _), (3, _), (4, _)]) ⟨rfl, rfl, rfl, rfl, rfl, trivial⟩ ?_
  refine Post.then_ ?_
  refine Cd.seq ?_
  refine Cd.region ?_
  refine Seq.val (Runs.fieldB 0 rfl rfl Tryz.underlying97 rfl (by kernel_rfl)) rfl rfl rfl ?_
  refine Seq.val (Runs.loadB rfl rfl Tryz.underlying3 rfl k1 rfl) rfl rfl rfl ?_
  refine Seq.val (Runs.eqlI rfl rfl rfl) rfl rfl rfl ?_
  refine Seq.val (Runs.move rfl rfl) rfl rfl rfl ?_
  refine SeqC.start ?_
  refine SeqC.open rfl rfl rfl rfl rfl rfl rfl (fun hcx => Runs.fieldB 0 rfl rfl Tryz.underlying97 rfl (by kernel_rfl)) ?_
  refine SeqC.next rfl rfl rfl rfl rfl rfl rfl (fun hcx => Runs.loadB rfl rfl Tryz.underlying3 rfl k1 rfl) ?_
  refine SeqC.next rfl rfl rfl rfl rfl rfl rfl (fun hcx => Runs.eqlI rfl rfl rfl) ?_
  refine SeqC.or rfl rfl rfl rfl rfl rfl rfl ?_
  refine Seq.val (Runs.assign rfl rfl) rfl rfl rfl ?_
  refine Seq.nil ?_
  refine Post.weak (F' := [(0, _), (1, _), (2, _), (3, _), (4, _), (5, _)]) ⟨rfl, rfl, rfl, rfl, rfl, rfl, trivial⟩ ?_
  refine Post.then_ ?_
  refine Cd.seq ?_
  refine Cd.region ?_
  refine Seq.val (Runs.move rfl rfl) rfl rfl rfl ?_
  refine Seq.val (Runs.not rfl rfl) rfl rfl rfl ?_
  refine Seq.val (Runs.move rfl rfl) rfl rfl rfl ?_
  refine SeqC.start ?_
  refine SeqC.open rfl rfl rfl rfl rfl rfl rfl (fun hcx => Runs.fieldB 1 rfl rfl Tryz.underlying97 rfl (by kernel_rfl)) ?_
  refine SeqC.next rfl rfl rfl rfl rfl rfl rfl (fun hcx => Runs.loadB rfl rfl Tryz.underlying9 rfl k1 rfl) ?_
  refine SeqC.nextC rfl rfl rfl rfl rfl rfl rfl (fun hcx => Enters.func rfl rfl rfl (run_enter Tryz.func35 (by kernel_rfl) rfl)) (fun hcx => h1 _) ?_
  intro w2 hw2
  replace bel := bel.step hw2
  replace k1 := k1.step hw2
  refine SeqC.or rfl rfl rfl rfl rfl rfl rfl ?_
  refine Seq.val (Runs.move rfl rfl) rfl rfl rfl ?_
  refine SeqC.start ?_
  refine SeqC.open rfl rfl rfl rfl rfl rfl rfl (fun hcx => Runs.move rfl rfl) ?_
  refine SeqC.next rfl rfl rfl rfl rfl rfl rfl (fun hcx => Runs.not rfl rfl) ?_
  refine SeqC.next rfl rfl rfl rfl rfl rfl rfl (fun hcx => Runs.move rfl rfl) ?_
  refine SeqC.open rfl rfl rfl rfl rfl rfl rfl (fun hcx => Runs.fieldB 2 rfl rfl Tryz.underlying97 rfl (by kernel_rfl)) ?_
  refine SeqC.next rfl rfl rfl rfl rfl rfl rfl (fun hcx => Runs.loadB rfl rfl Tryz.underlying9 rfl k1 rfl) ?_
  refine SeqC.nextC rfl rfl rfl rfl rfl rfl rfl (fun hcx => Enters.func rfl rfl rfl (run_enter Tryz.func35 (by kernel_rfl) rfl)) (fun hcx => h2 _) ?_
  intro w3 hw3
  replace bel := bel.step hw3
  replace k1 := k1.step hw3
  refine SeqC.orG rfl rfl rfl rfl rfl rfl rfl rfl rfl rfl rfl ?_
  refine SeqC.and rfl rfl rfl rfl rfl rfl rfl ?_
  refine Seq.val (Runs.move rfl rfl) rfl rfl rfl ?_
  refine SeqC.start ?_
  refine SeqC.open rfl rfl rfl rfl rfl rfl rfl (fun hcx => Runs.move rfl rfl) ?_
  refine SeqC.next rfl rfl rfl rfl rfl rfl rfl (fun hcx => Runs.not rfl rfl) ?_
  refine SeqC.next rfl rfl rfl rfl rfl rfl rfl (fun hcx => Runs.move rfl rfl) ?_
  refine SeqC.open rfl rfl rfl rfl rfl rfl rfl (fun hcx => Runs.fieldB 3 rfl rfl Tryz.underlying97 rfl (by kernel_rfl)) ?_
  refine SeqC.next rfl rfl rfl rfl rfl rfl rfl (fun hcx => Runs.loadB rfl rfl Tryz.underlying9 rfl k1 rfl) ?_
  refine SeqC.nextC rfl rfl rfl rfl rfl rfl rfl (fun hcx => Enters.func rfl rfl rfl (run_enter Tryz.func35 (by kernel_rfl) rfl)) (fun hcx => h3 _) ?_
  intro w4 hw4
  replace bel := bel.step hw4
  replace k1 := k1.step hw4
  refine SeqC.next rfl rfl rfl rfl rfl rfl rfl (fun hcx => Runs.move rfl rfl) ?_
  refine SeqC.open rfl rfl rfl rfl rfl rfl rfl (fun hcx => Runs.fieldB 2 rfl rfl Tryz.underlying97 rfl (by kernel_rfl)) ?_
  refine SeqC.next rfl rfl rfl rfl rfl rfl rfl (fun hcx => Runs.loadB rfl rfl Tryz.underlying9 rfl k1 rfl) ?_
  refine SeqC.next rfl rfl rfl rfl rfl rfl rfl (fun hcx => Runs.fieldB 3 rfl rfl Tryz.underlying97 rfl (by kernel_rfl)) ?_
  refine SeqC.next rfl rfl rfl rfl rfl rfl rfl (fun hcx => Runs.loadB rfl rfl Tryz.underlying9 rfl k1 rfl) ?_
  refine SeqC.next rfl rfl rfl rfl rfl rfl rfl (fun hcx => Runs.neqL (a := e.a) (b := e.b) rfl rfl rfl ha hb) ?_
  refine SeqC.andG rfl rfl rfl rfl rfl rfl rfl rfl rfl rfl rfl ?_
  refine SeqC.orG rfl rfl rfl rfl rfl rfl rfl rfl rfl rfl rfl ?_
  refine SeqC.and rfl rfl rfl rfl rfl rfl rfl ?_
  refine Seq.val (Runs.assign rfl rfl) rfl rfl rfl ?_
  refine Seq.nil ?_
  refine Post.weak (F' := [(0, _), (1, _), (2, _), (3, _), (4, _), (5, _)]) ⟨rfl, rfl, rfl, rfl, rfl, rfl, trivial⟩ ?_
  refine Post.then_ ?_
  refine Cd.ret ?_
  refine Post.end1 rfl rfl (.inl rfl) ?_
  exact ⟨ret1 (bool_eq (by simp)), bel⟩
end Go.Proofs.YtenikchlnfhikaaGreatDoor

namespace Go.Proofs.YtenikchlnfhikaaGreatDoor
open Go.RowKit

theorem zero_api_Term : zeroIs Tryz.prog 175 = some (some (.agg #[.int .i64 0, .string { data := #[] }, .slice none 0 0, .slice none 0 0])) := by kernel_rfl
def zeroE (k : Int) : Ev := ⟨k, [], [], [], [], 0, 0, 0, 0⟩
theorem run_build_ev (a : Int) (w : World) : (Instr.build 97 #[(0, .int .i64 a)]).run Tryz.prog w = .ok (zeroE a).v w := by kernel_rfl
theorem blankE_rng {e : Ev} (h : e.rng) : (blankE e).rng := by
  have hn : ∀ x ∈ ([] : List Nat), x < 256 := fun x h => by cases h
  have h0 : I64 0 := by unfold I64; omega
  have hl : ([] : List Nat).length ≤ 9223372036854775807 := Nat.zero_le _
  obtain ⟨a1, a2, a3, a4, a5, a6, a7, a8, a9, b1, b2, b3, b4⟩ := h
  unfold blankE
  repeat' split
  all_goals constructor <;> first | assumption
theorem zeroE_rng {k : Int} (h : I64 k) : (zeroE k).rng := by
  have h0 : I64 0 := by unfold I64; omega
  have hn : ∀ x ∈ ([] : List Nat), x < 256 := fun x h => by cases h
  exact ⟨h, hn, hn, hn, hn, h0, h0, h0, h0, Nat.zero_le _, Nat.zero_le _, Nat.zero_le _, Nat.zero_le _⟩
/-- Is an event right? -/
def rightE (e : Ev) : Bool := (decide (1 ≤ e.kind) && decide (e.kind ≤ 7)) && decide (blankE e = zeroE e.kind) && namedE e && (decide (0 ≤ e.day) && decide (e.day ≤ 2932896)) && (decide (0 ≤ e.at_) && decide (e.at_ < 200) && (decide (e.which = 0) || decide (e.which = 1)))
set_option maxHeartbeats 1000000 in
theorem right_eq (e : Ev) (he : e.rng) (w : World) (hpr : ∀ W, Below w.heap.size w W → e.kind = 1 → Calls Tryz.prog 85 #[.string (strOf e.text)] W fun en w' => Below W.heap.size W w' ∧ ∃ x1 x2 A1 n1 c1 A2 n2 c2, en = .returned (.tuple #[.agg #[.int .i64 x1, .string x2, .slice A1 n1 c1, .slice A2 n2 c2], .bool true])) : Calls Tryz.prog 37 #[e.v] w fun en w' => en = .returned (.bool (rightE e)) ∧ Grow w w' := by
  have bel := Below.refl w.heap.size w
  have hneq := fun W => run_neq_ev (blankE e) (zeroE e.kind) W
  rw [same_ev (blankE_rng he) (zeroE_rng he.kind)] at hneq
  have hbl := fun W => blank_ev e W
  have hnm := fun W => named_ev e he W
  have hday := fun W => day_ev e.day W
  unfold Ev.v at hbl hnm ⊢
  have hF : ∀ {b : Bool}, b = false → ∀ c d, (b && c && d) = false := fun h c d => by rw [h]; rfl
  refine Calls.start 60 Tryz.func37 rfl rfl rfl ?_
  refine Cd.seq ?_
  refine Cd.region ?_
  refine Seq.box rfl rfl rfl rfl rfl ?_
  intro g1 w1 n1
  have e1 := Nat.le_trans bel.size n1.ge
  replace bel := bel.step n1.below
  have k1 := n1.blk
  refine Seq.val (Runs.assign rfl rfl) rfl rfl rfl ?_
  refine Seq.nil ?_
  refine Post.weak (F' := [(0, _), (1, _), (2, _)]) ⟨rfl, rfl, rfl, trivial⟩ ?_
  refine Post.then_ ?_
  refine Cd.seq ?_
  refine Cd.seq ?_
  by_cases c1 : e.kind < 1
  · skip
    refine Cd.draw 21 (by kernel_rfl) [] (.inl rfl) rfl Grow Grow.refl (fun _ _ _ => Grow.trans) ?_
    intro w2 hw2 zw2
    replace bel := bel.step hw2
    replace k1 := k1.step hw2
    have zbel := bel.size
    have zlt := k1.lt
    refine Dr.val Grow.refl rfl (fun w hG => Runs.fieldB 0 rfl rfl Tryz.underlying97 rfl (by kernel_rfl)) rfl ?_
    refine Dr.val Grow.refl rfl (fun w hG => Runs.loadB rfl rfl Tryz.underlying3 rfl (k1.step hG) rfl) rfl ?_
    refine Dr.val Grow.refl rfl (fun w hG => (Runs.lss rfl rfl rfl).isT (by omega)) rfl ?_
    refine Dr.val Grow.refl rfl (fun w hG => Runs.move rfl rfl) rfl ?_
    refine Dr.skip rfl rfl rfl rfl rfl ?_
    refine Dr.skip rfl rfl rfl rfl rfl ?_
    refine Dr.skip rfl rfl rfl rfl rfl ?_
    refine Dr.val Grow.refl rfl (fun w hG => Runs.pickT rfl rfl rfl) rfl ?_
    refine Dr.val Grow.refl rfl (fun w hG => Runs.move rfl rfl) rfl ?_
    refine Dr.skip rfl rfl rfl rfl rfl ?_
    refine Dr.skip rfl rfl rfl rfl rfl ?_
    refine Dr.skip rfl rfl rfl rfl rfl ?_
    refine Dr.skip rfl rfl rfl rfl rfl ?_
    refine Dr.skip rfl rfl rfl rfl rfl ?_
    refine Dr.skip rfl rfl rfl rfl rfl ?_
    refine Dr.val Grow.refl rfl (fun w hG => Runs.pickT rfl rfl rfl) rfl ?_
    refine Dr.val Grow.refl rfl (fun w hG => Runs.move rfl rfl) rfl ?_
    refine Dr.skip rfl rfl rfl rfl rfl ?_
    refine Dr.skip rfl rfl rfl rfl rfl ?_
    refine Dr.skip rfl rfl rfl rfl rfl ?_
    refine Dr.val Grow.refl rfl (fun w hG => Runs.pickT rfl rfl rfl) rfl ?_
    refine Dr.nil ?_
    refine FinX.done (F' := [(0, _), (1, _), (2, _), (25, _)]) rfl ⟨rfl, rfl, rfl, rfl, trivial⟩ ?_
    intro w3 hw3 fw3
    replace bel := bel.step hw3
    replace k1 := k1.step hw3
    refine Seq.nil ?_
    refine Post.weak (F' := [(0, _), (1, _), (2, _), (25, _)]) ⟨rfl, rfl, rfl, rfl, trivial⟩ ?_
    refine Post.then_ ?_
    refine Cd.condT rfl rfl ?_
    refine Cd.seq ?_
    refine Cd.region ?_
    refine Seq.val (Runs.assign rfl rfl) rfl rfl rfl ?_
    refine Seq.nil ?_
    refine Post.weak (F' := [(0, _), (1, _), (2, _), (25, _)]) ⟨rfl, rfl, rfl, rfl, trivial⟩ ?_
    refine Post.then_ ?_
    refine Cd.ret ?_
    refine Post.then_ret ?_
    refine Post.end1 rfl rfl (.inl rfl) ?_
    exact ⟨ret1 (bool_eq (by unfold rightE; rw [decide_eq_false (by omega)]; rfl)), bel⟩
  by_cases c2 : 7 < e.kind
  · skip
    refine Cd.draw 21 (by kernel_rfl) [] (.inl rfl) rfl Grow Grow.refl (fun _ _ _ => Grow.trans) ?_
    intro w2 hw2 zw2
    replace bel := bel.step hw2
    replace k1 := k1.step hw2
    have zbel := bel.size
    have zlt := k1.lt
    refine Dr.val Grow.refl rfl (fun w hG => Runs.fieldB 0 rfl rfl Tryz.underlying97 rfl (by kernel_rfl)) rfl ?_
    refine Dr.val Grow.refl rfl (fun w hG => Runs.loadB rfl rfl Tryz.underlying3 rfl (k1.step hG) rfl) rfl ?_
    refine Dr.val Grow.refl rfl (fun w hG => (Runs.lss rfl rfl rfl).isF (by omega)) rfl ?_
    refine Dr.val Grow.refl rfl (fun w hG => Runs.move rfl rfl) rfl ?_
    refine Dr.valG Grow.refl rfl (fun w hG => Runs.fieldB 0 rfl rfl Tryz.underlying97 rfl (by kernel_rfl)) rfl rfl rfl ?_
    refine Dr.valG Grow.refl rfl (fun w hG => Runs.loadB rfl rfl Tryz.underlying3 rfl (k1.step hG) rfl) rfl rfl rfl ?_
    refine Dr.valG Grow.refl rfl (fun w hG => (Runs.gtr rfl rfl rfl).isT (by omega)) rfl rfl rfl ?_
    refine Dr.val Grow.refl rfl (fun w hG => Runs.pickF rfl rfl rfl) rfl ?_
    refine Dr.val Grow.refl rfl (fun w hG => Runs.move rfl rfl) rfl ?_
    refine Dr.skip rfl rfl rfl rfl rfl ?_
    refine Dr.skip rfl rfl rfl rfl rfl ?_
    refine Dr.skip rfl rfl rfl rfl rfl ?_
    refine Dr.skip rfl rfl rfl rfl rfl ?_
    refine Dr.skip rfl rfl rfl rfl rfl ?_
    refine Dr.skip rfl rfl rfl rfl rfl ?_
    refine Dr.val Grow.refl rfl (fun w hG => Runs.pickT rfl rfl rfl) rfl ?_
    refine Dr.val Grow.refl rfl (fun w hG => Runs.move rfl rfl) rfl ?_
    refine Dr.skip rfl rfl rfl rfl rfl ?_
    refine Dr.skip rfl rfl rfl rfl rfl ?_
    refine Dr.skip rfl rfl rfl rfl rfl ?_
    refine Dr.val Grow.refl rfl (fun w hG => Runs.pickT rfl rfl rfl) rfl ?_
    refine Dr.nil ?_
    refine FinX.done (F' := [(0, _), (1, _), (2, _), (25, _)]) rfl ⟨rfl, rfl, rfl, rfl, trivial⟩ ?_
    intro w3 hw3 fw3
    replace bel := bel.step hw3
    replace k1 := k1.step hw3
    refine Seq.nil ?_
    refine Post.weak (F' := [(0, _), (1, _), (2, _), (25, _)]) ⟨rfl, rfl, rfl, rfl, trivial⟩ ?_
    refine Post.then_ ?_
    refine Cd.condT rfl rfl ?_
    refine Cd.seq ?_
    refine Cd.region ?_
    refine Seq.val (Runs.assign rfl rfl) rfl rfl rfl ?_
    refine Seq.nil ?_
    refine Post.weak (F' := [(0, _), (1, _), (2, _), (25, _)]) ⟨rfl, rfl, rfl, rfl, trivial⟩ ?_
    refine Post.then_ ?_
    refine Cd.ret ?_
    refine Post.then_ret ?_
    refine Post.end1 rfl rfl (.inl rfl) ?_
    exact ⟨ret1 (bool_eq (by unfold rightE; rw [decide_eq_false (show ¬ e.kind ≤ 7 by omega), Bool.and_false]; rfl)), bel⟩
  have hk : decide (1 ≤ e.kind) = true ∧ decide (e.kind ≤ 7) = true := ⟨decide_eq_true (by omega), decide_eq_true (by omega)⟩
  by_cases c3 : blankE e = zeroE e.kind
  · have hne : (!decide (blankE e = zeroE e.kind)) = false := by rw [decide_eq_true c3]; rfl
    rw [hne] at hneq
    refine Cd.draw 21 (by kernel_rfl) [] (.inl rfl) rfl Grow Grow.refl (fun _ _ _ => Grow.trans) ?_
    intro w2 hw2 zw2
    replace bel := bel.step hw2
    replace k1 := k1.step hw2
    have zbel := bel.size
    have zlt := k1.lt
    refine Dr.val Grow.refl rfl (fun w hG => Runs.fieldB 0 rfl rfl Tryz.underlying97 rfl (by kernel_rfl)) rfl ?_
    refine Dr.val Grow.refl rfl (fun w hG => Runs.loadB rfl rfl Tryz.underlying3 rfl (k1.step hG) rfl) rfl ?_
    refine Dr.val Grow.refl rfl (fun w hG => (Runs.lss rfl rfl rfl).isF (by omega)) rfl ?_
    refine Dr.val Grow.refl rfl (fun w hG => Runs.move rfl rfl) rfl ?_
    refine Dr.valG Grow.refl rfl (fun w hG => Runs.fieldB 0 rfl rfl Tryz.underlying97 rfl (by kernel_rfl)) rfl rfl rfl ?_
    refine Dr.valG Grow.refl rfl (fun w hG => Runs.loadB rfl rfl Tryz.underlying3 rfl (k1.step hG) rfl) rfl rfl rfl ?_
    refine Dr.valG Grow.refl rfl (fun w hG => (Runs.gtr rfl rfl rfl).isF (by omega)) rfl rfl rfl ?_
    refine Dr.val Grow.refl rfl (fun w hG => Runs.pickF rfl rfl rfl) rfl ?_
    refine Dr.val Grow.refl rfl (fun w hG => Runs.move rfl rfl) rfl ?_
    refine Dr.valG Grow.refl rfl (fun w hG => Runs.loadW rfl rfl Tryz.underlying97 rfl (k1.step hG) (m := 9) (by kernel_rfl) rfl) rfl rfl rfl ?_
    refine Dr.callVG rfl (fun w => Enters.func rfl rfl rfl (run_enter Tryz.func83 (by kernel_rfl) rfl)) rfl rfl rfl (fun w hG => hbl w) ?_
    refine Dr.valG Grow.refl rfl (fun w hG => Runs.fieldB 0 rfl rfl Tryz.underlying97 rfl (by kernel_rfl)) rfl rfl rfl ?_
    refine Dr.valG Grow.refl rfl (fun w hG => Runs.loadB rfl rfl Tryz.underlying3 rfl (k1.step hG) rfl) rfl rfl rfl ?_
    refine Dr.valG Grow.refl rfl (fun w hG => Runs.build rfl rfl (run_build_ev _ w)) rfl rfl rfl ?_
    refine Dr.valG Grow.refl rfl (fun w hG => Runs.bin rfl rfl rfl (guard_ev _ _ _ _ _ w) (hneq w)) rfl rfl rfl ?_
    refine Dr.val Grow.refl rfl (fun w hG => Runs.pickF rfl rfl rfl) rfl ?_
    refine Dr.val Grow.refl rfl (fun w hG => Runs.move rfl rfl) rfl ?_
    refine Dr.valG Grow.refl rfl (fun w hG => Runs.loadW rfl rfl Tryz.underlying97 rfl (k1.step hG) (m := 9) (by kernel_rfl) rfl) rfl rfl rfl ?_
    refine Dr.callVG rfl (fun w => Enters.func rfl rfl rfl (run_enter Tryz.func84 (by kernel_rfl) rfl)) rfl rfl rfl (fun w hG => hnm w) ?_
    refine Dr.valG Grow.refl rfl (fun w hG => Runs.not rfl rfl) rfl rfl rfl ?_
    refine Dr.val Grow.refl rfl (fun w hG => Runs.pickF rfl rfl rfl) rfl ?_
    refine Dr.nil ?_
    refine FinX.done (F' := [(0, _), (1, _), (2, _), (25, _)]) rfl ⟨rfl, rfl, rfl, rfl, trivial⟩ ?_
    intro w3 hw3 fw3
    replace bel := bel.step hw3
    replace k1 := k1.step hw3
    refine Seq.nil ?_
    refine Post.weak (F' := [(0, _), (1, _), (2, _), (25, _)]) ⟨rfl, rfl, rfl, rfl, trivial⟩ ?_
    refine Post.then_ ?_
    refine Cd.cond rfl (fun h4 => ?_) (fun h4 => ?_)
    · skip
      refine Cd.seq ?_
      refine Cd.region ?_
      refine Seq.val (Runs.assign rfl rfl) rfl rfl rfl ?_
      refine Seq.nil ?_
      refine Post.weak (F' := [(0, _), (1, _), (2, _), (25, _)]) ⟨rfl, rfl, rfl, rfl, trivial⟩ ?_
      refine Post.then_ ?_
      refine Cd.ret ?_
      refine Post.then_ret ?_
      refine Post.end1 rfl rfl (.inl rfl) ?_
      have h4 : namedE e = false := by simpa using h4
      exact ⟨ret1 (bool_eq (by unfold rightE; rw [h4]; simp)), bel⟩
    have h4 : namedE e = true := by simpa using h4
    refine Cd.skip ?_
    refine Post.then_ ?_
    refine Cd.seq ?_
    refine Cd.seq ?_
    refine Cd.region ?_
    refine Seq.val (Runs.fieldB 0 rfl rfl Tryz.underlying97 rfl (by kernel_rfl)) rfl rfl rfl ?_
    refine Seq.val (Runs.loadB rfl rfl Tryz.underlying3 rfl k1 rfl) rfl rfl rfl ?_
    refine Seq.val (Runs.eqlI rfl rfl rfl) rfl rfl rfl ?_
    refine Seq.nil ?_
    refine Post.weak (F' := [(0, _), (1, _), (2, _), (25, _), (28, _)]) ⟨rfl, rfl, rfl, rfl, rfl, trivial⟩ ?_
    refine Post.then_ ?_
    refine Cd.condD rfl (fun h5 => ?_) (fun h5 => ?_)
    · skip
      refine Cd.seq ?_
      refine Cd.region ?_
      refine Seq.val (Runs.fieldB 4 rfl rfl Tryz.underlying97 rfl (by kernel_rfl)) rfl rfl rfl ?_
      refine Seq.val (Runs.loadB rfl rfl Tryz.underlying9 rfl k1 rfl) rfl rfl rfl ?_
      refine Seq.call (Enters.func rfl rfl rfl (run_enter Tryz.func85 (by kernel_rfl) rfl)) rfl rfl rfl (hpr _ bel h5) ?_
      rintro en w8 ⟨hb8, x1, x2, A1, n1, c1, A2, n2, c2, rfl⟩
      refine ⟨_, rfl, ?_⟩
      replace bel := bel.step hb8
      replace k1 := k1.step hb8
      refine Seq.val (Runs.move rfl rfl) rfl rfl rfl ?_
      refine Seq.val (Runs.extract rfl rfl rfl) rfl rfl rfl ?_
      refine Seq.val (Runs.extract rfl rfl rfl) rfl rfl rfl ?_
      refine Seq.alloc rfl (run_zero zero_api_Term) rfl rfl rfl ?_
      intro g3 w4 n3
      have e3 := Nat.le_trans bel.size n3.ge
      have l3 := Nat.lt_of_lt_of_le k1.lt n3.ge
      replace bel := bel.step n3.below
      replace k1 := k1.step n3.below
      have k3 := n3.blk
      refine Seq.storeN rfl rfl rfl rfl (m := 4) (by kernel_rfl) rfl (by repeat' first | exact trivial | apply And.intro | rfl | assumption) k3 (by simp [Value.cells]) rfl rfl ?_
      intro w5 pw5
      replace bel := bel.put k3 pw5 e3
      replace k1 := k1.put pw5 (by omega)
      replace k3 := pw5.blk
      refine Seq.val (Runs.assign rfl rfl) rfl rfl rfl ?_
      refine Seq.nil ?_
      refine Post.weak (F' := [(0, _), (1, _), (2, _), (4, _), (25, _), (28, _)]) ⟨rfl, rfl, rfl, rfl, rfl, rfl, trivial⟩ ?_
      refine Post.then_ ?_
      refine Cd.seq ?_
      refine Cd.region ?_
      refine Seq.val (Runs.move rfl rfl) rfl rfl rfl ?_
      refine Seq.val (Runs.not rfl rfl) rfl rfl rfl ?_
      refine Seq.nil ?_
      refine Post.weak (F' := [(0, _), (1, _), (2, _), (4, _), (25, _), (28, _), (36, _)]) ⟨rfl, rfl, rfl, rfl, rfl, rfl, rfl, trivial⟩ ?_
      refine Post.then_ ?_
      refine Cd.condF rfl rfl ?_
      refine Cd.skip ?_
      refine Post.then_ ?_
      refine Cd.seq ?_
      refine Cd.region ?_
      refine Seq.val (Runs.fieldB 5 rfl rfl Tryz.underlying97 rfl (by kernel_rfl)) rfl rfl rfl ?_
      refine Seq.val (Runs.loadB rfl rfl Tryz.underlying3 rfl k1 rfl) rfl rfl rfl ?_
      refine Seq.call (Enters.func rfl rfl rfl (run_enter Tryz.func86 (by kernel_rfl) rfl)) rfl rfl rfl (hday _) ?_
      rintro en w9 ⟨rfl, hb9⟩
      refine ⟨_, rfl, ?_⟩
      replace bel := bel.step hb9
      replace k1 := k1.step hb9
      replace k3 := k3.step hb9
      refine Seq.val (Runs.move rfl rfl) rfl rfl rfl ?_
      refine SeqC.start ?_
      refine SeqC.open rfl rfl rfl rfl rfl rfl rfl (fun hcx => Runs.fieldB 6 rfl rfl Tryz.underlying97 rfl (by kernel_rfl)) ?_
      refine SeqC.next rfl rfl rfl rfl rfl rfl rfl (fun hcx => Runs.loadB rfl rfl Tryz.underlying3 rfl k1 rfl) ?_
      refine SeqC.next rfl rfl rfl rfl rfl rfl rfl (fun hcx => Runs.geq rfl rfl rfl) ?_
      refine SeqC.and rfl rfl rfl rfl rfl rfl rfl ?_
      refine Seq.val (Runs.move rfl rfl) rfl rfl rfl ?_
      refine SeqC.start ?_
      refine SeqC.open rfl rfl rfl rfl rfl rfl rfl (fun hcx => Runs.fieldB 6 rfl rfl Tryz.underlying97 rfl (by kernel_rfl)) ?_
      refine SeqC.next rfl rfl rfl rfl rfl rfl rfl (fun hcx => Runs.loadB rfl rfl Tryz.underlying3 rfl k1 rfl) ?_
      refine SeqC.next rfl rfl rfl rfl rfl rfl rfl (fun hcx => Runs.lss rfl rfl rfl) ?_
      refine SeqC.and rfl rfl rfl rfl rfl rfl rfl ?_
      refine Seq.val (Runs.move rfl rfl) rfl rfl rfl ?_
      refine SeqC.start ?_
      refine SeqC.open rfl rfl rfl rfl rfl rfl rfl (fun hcx => Runs.fieldB 7 rfl rfl Tryz.underlying97 rfl (by kernel_rfl)) ?_
      refine SeqC.next rfl rfl rfl rfl rfl rfl rfl (fun hcx => Runs.loadB rfl rfl Tryz.underlying3 rfl k1 rfl) ?_
      refine SeqC.next rfl rfl rfl rfl rfl rfl rfl (fun hcx => Runs.eqlI rfl rfl rfl) ?_
      refine SeqC.next rfl rfl rfl rfl rfl rfl rfl (fun hcx => Runs.move rfl rfl) ?_
      refine SeqC.open rfl rfl rfl rfl rfl rfl rfl (fun hcx => Runs.fieldB 7 rfl rfl Tryz.underlying97 rfl (by kernel_rfl)) ?_
      refine SeqC.next rfl rfl rfl rfl rfl rfl rfl (fun hcx => Runs.loadB rfl rfl Tryz.underlying3 rfl k1 rfl) ?_
      refine SeqC.next rfl rfl rfl rfl rfl rfl rfl (fun hcx => Runs.eqlI rfl rfl rfl) ?_
      refine SeqC.orG rfl rfl rfl rfl rfl rfl rfl rfl rfl rfl rfl ?_
      refine SeqC.and rfl rfl rfl rfl rfl rfl rfl ?_
      refine Seq.val (Runs.assign rfl rfl) rfl rfl rfl ?_
      refine Seq.nil ?_
      refine Post.weak (F' := [(0, _), (1, _), (2, _), (4, _), (25, _), (28, _), (36, _)]) ⟨rfl, rfl, rfl, rfl, rfl, rfl, rfl, trivial⟩ ?_
      refine Post.then_ ?_
      refine Cd.ret ?_
      refine Post.end1 rfl rfl (.inl rfl) ?_
      refine ⟨ret1 (bool_eq ?_), bel⟩
      unfold rightE
      rw [hk.1, hk.2, decide_eq_true c3, h4]
      simp [Bool.and_assoc]
    · skip
      refine Cd.skip ?_
      refine Post.then_ ?_
      refine Cd.seq ?_
      refine Cd.region ?_
      refine Seq.val (Runs.fieldB 5 rfl rfl Tryz.underlying97 rfl (by kernel_rfl)) rfl rfl rfl ?_
      refine Seq.val (Runs.loadB rfl rfl Tryz.underlying3 rfl k1 rfl) rfl rfl rfl ?_
      refine Seq.call (Enters.func rfl rfl rfl (run_enter Tryz.func86 (by kernel_rfl) rfl)) rfl rfl rfl (hday _) ?_
      rintro en w9 ⟨rfl, hb9⟩
      refine ⟨_, rfl, ?_⟩
      replace bel := bel.step hb9
      replace k1 := k1.step hb9
      refine Seq.val (Runs.move rfl rfl) rfl rfl rfl ?_
      refine SeqC.start ?_
      refine SeqC.open rfl rfl rfl rfl rfl rfl rfl (fun hcx => Runs.fieldB 6 rfl rfl Tryz.underlying97 rfl (by kernel_rfl)) ?_
      refine SeqC.next rfl rfl rfl rfl rfl rfl rfl (fun hcx => Runs.loadB rfl rfl Tryz.underlying3 rfl k1 rfl) ?_
      refine SeqC.next rfl rfl rfl rfl rfl rfl rfl (fun hcx => Runs.geq rfl rfl rfl) ?_
      refine SeqC.and rfl rfl rfl rfl rfl rfl rfl ?_
      refine Seq.val (Runs.move rfl rfl) rfl rfl rfl ?_
      refine SeqC.start ?_
      refine SeqC.open rfl rfl rfl rfl rfl rfl rfl (fun hcx => Runs.fieldB 6 rfl rfl Tryz.underlying97 rfl (by kernel_rfl)) ?_
      refine SeqC.next rfl rfl rfl rfl rfl rfl rfl (fun hcx => Runs.loadB rfl rfl Tryz.underlying3 rfl k1 rfl) ?_
      refine SeqC.next rfl rfl rfl rfl rfl rfl rfl (fun hcx => Runs.lss rfl rfl rfl) ?_
      refine SeqC.and rfl rfl rfl rfl rfl rfl rfl ?_
      refine Seq.val (Runs.move rfl rfl) rfl rfl rfl ?_
      refine SeqC.start ?_
      refine SeqC.open rfl rfl rfl rfl rfl rfl rfl (fun hcx => Runs.fieldB 7 rfl rfl Tryz.underlying97 rfl (by kernel_rfl)) ?_
      refine SeqC.next rfl rfl rfl rfl rfl rfl rfl (fun hcx => Runs.loadB rfl rfl Tryz.underlying3 rfl k1 rfl) ?_
      refine SeqC.next rfl rfl rfl rfl rfl rfl rfl (fun hcx => Runs.eqlI rfl rfl rfl) ?_
      refine SeqC.next rfl rfl rfl rfl rfl rfl rfl (fun hcx => Runs.move rfl rfl) ?_
      refine SeqC.open rfl rfl rfl rfl rfl rfl rfl (fun hcx => Runs.fieldB 7 rfl rfl Tryz.underlying97 rfl (by kernel_rfl)) ?_
      refine SeqC.next rfl rfl rfl rfl rfl rfl rfl (fun hcx => Runs.loadB rfl rfl Tryz.underlying3 rfl k1 rfl) ?_
      refine SeqC.next rfl rfl rfl rfl rfl rfl rfl (fun hcx => Runs.eqlI rfl rfl rfl) ?_
      refine SeqC.orG rfl rfl rfl rfl rfl rfl rfl rfl rfl rfl rfl ?_
      refine SeqC.and rfl rfl rfl rfl rfl rfl rfl ?_
      refine Seq.val (Runs.assign rfl rfl) rfl rfl rfl ?_
      refine Seq.nil ?_
      refine Post.weak (F' := [(0, _), (1, _), (2, _), (25, _), (28, _)]) ⟨rfl, rfl, rfl, rfl, rfl, trivial⟩ ?_
      refine Post.then_ ?_
      refine Cd.ret ?_
      refine Post.end1 rfl rfl (.inl rfl) ?_
      refine ⟨ret1 (bool_eq ?_), bel⟩
      unfold rightE
      rw [hk.1, hk.2, decide_eq_true c3, h4]
      simp [Bool.and_assoc]
  · have hne : (!decide (blankE e = zeroE e.kind)) = true := by rw [decide_eq_false c3]; rfl
    rw [hne] at hneq
    refine Cd.draw 21 (by kernel_rfl) [] (.inl rfl) rfl Grow Grow.refl (fun _ _ _ => Grow.trans) ?_
    intro w2 hw2 zw2
    replace bel := bel.step hw2
    replace k1 := k1.step hw2
    have zbel := bel.size
    have zlt := k1.lt
    refine Dr.val Grow.refl rfl (fun w hG => Runs.fieldB 0 rfl rfl Tryz.underlying97 rfl (by kernel_rfl)) rfl ?_
    refine Dr.val Grow.refl rfl (fun w hG => Runs.loadB rfl rfl Tryz.underlying3 rfl (k1.step hG) rfl) rfl ?_
    refine Dr.val Grow.refl rfl (fun w hG => (Runs.lss rfl rfl rfl).isF (by omega)) rfl ?_
    refine Dr.val Grow.refl rfl (fun w hG => Runs.move rfl rfl) rfl ?_
    refine Dr.valG Grow.refl rfl (fun w hG => Runs.fieldB 0 rfl rfl Tryz.underlying97 rfl (by kernel_rfl)) rfl rfl rfl ?_
    refine Dr.valG Grow.refl rfl (fun w hG => Runs.loadB rfl rfl Tryz.underlying3 rfl (k1.step hG) rfl) rfl rfl rfl ?_
    refine Dr.valG Grow.refl rfl (fun w hG => (Runs.gtr rfl rfl rfl).isF (by omega)) rfl rfl rfl ?_
    refine Dr.val Grow.refl rfl (fun w hG => Runs.pickF rfl rfl rfl) rfl ?_
    refine Dr.val Grow.refl rfl (fun w hG => Runs.move rfl rfl) rfl ?_
    refine Dr.valG Grow.refl rfl (fun w hG => Runs.loadW rfl rfl Tryz.underlying97 rfl (k1.step hG) (m := 9) (by kernel_rfl) rfl) rfl rfl rfl ?_
    refine Dr.callVG rfl (fun w => Enters.func rfl rfl rfl (run_enter Tryz.func83 (by kernel_rfl) rfl)) rfl rfl rfl (fun w hG => hbl w) ?_
    refine Dr.valG Grow.refl rfl (fun w hG => Runs.fieldB 0 rfl rfl Tryz.underlying97 rfl (by kernel_rfl)) rfl rfl rfl ?_
    refine Dr.valG Grow.refl rfl (fun w hG => Runs.loadB rfl rfl Tryz.underlying3 rfl (k1.step hG) rfl) rfl rfl rfl ?_
    refine Dr.valG Grow.refl rfl (fun w hG => Runs.build rfl rfl (run_build_ev _ w)) rfl rfl rfl ?_
    refine Dr.valG Grow.refl rfl (fun w hG => Runs.bin rfl rfl rfl (guard_ev _ _ _ _ _ w) (hneq w)) rfl rfl rfl ?_
    refine Dr.val Grow.refl rfl (fun w hG => Runs.pickF rfl rfl rfl) rfl ?_
    refine Dr.val Grow.refl rfl (fun w hG => Runs.move rfl rfl) rfl ?_
    refine Dr.skip rfl rfl rfl rfl rfl ?_
    refine Dr.skip rfl rfl rfl rfl rfl ?_
    refine Dr.skip rfl rfl rfl rfl rfl ?_
    refine Dr.val Grow.refl rfl (fun w hG => Runs.pickT rfl rfl rfl) rfl ?_
    refine Dr.nil ?_
    refine FinX.done (F' := [(0, _), (1, _), (2, _), (25, _)]) rfl ⟨rfl, rfl, rfl, rfl, trivial⟩ ?_
    intro w3 hw3 fw3
    replace bel := bel.step hw3
    replace k1 := k1.step hw3
    refine Seq.nil ?_
    refine Post.weak (F' := [(0, _), (1, _), (2, _), (25, _)]) ⟨rfl, rfl, rfl, rfl, trivial⟩ ?_
    refine Post.then_ ?_
    refine Cd.condT rfl rfl ?_
    refine Cd.seq ?_
    refine Cd.region ?_
    refine Seq.val (Runs.assign rfl rfl) rfl rfl rfl ?_
    refine Seq.nil ?_
    refine Post.weak (F' := [(0, _), (1, _), (2, _), (25, _)]) ⟨rfl, rfl, rfl, rfl, trivial⟩ ?_
    refine Post.then_ ?_
    refine Cd.ret ?_
    refine Post.then_ret ?_
    refine Post.end1 rfl rfl (.inl rfl) ?_
    exact ⟨ret1 (bool_eq (by unfold rightE; rw [decide_eq_false c3]; simp)), bel⟩
end Go.Proofs.YtenikchlnfhikaaGreatDoor

