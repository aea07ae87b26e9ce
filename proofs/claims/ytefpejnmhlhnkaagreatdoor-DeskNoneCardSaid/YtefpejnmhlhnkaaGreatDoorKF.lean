/-
  Guarded operations ('&&', '||') without a split: what they come to where they are wanted. No condition.
-/
import Derived.Test.YtefpejnmhlhnkaaGreatDoorKE
set_option linter.unusedSectionVars false
namespace Go.Proofs.YtefpejnmhlhnkaaGreatDoor
open Go.RowKit
variable [Inhabited (List Deferred)]

/-- Contexts, the innermost first: where c holds, the slots hold these values; where it does not, they hold nothing. -/
abbrev Cxs := List (Bool × List (Nat × Value))
def allX : Cxs → List (Nat × Value) → List (Nat × Value)
  | [], F => F
  | (_, H) :: r, F => H ++ allX r F
/-- The innermost one's condition. -/
def topX : Cxs → Bool
  | [] => true
  | (c, _) :: _ => c
/-- What the contexts say of a frame; an inner one's condition implies the outer one's. -/
def HoldX : Cxs → List (Nat × Value) → Act → Prop
  | [], _, _ => True
  | (c, H) :: r, F, a => (c = true → topX r = true) ∧ (c = true → ∀ t v, look H t = some v → a.tmps[t]? = some v) ∧ (c = false → ∀ t v, look H t = some v → a.tmps[t]? = some undef) ∧ HoldX r F a
def SeqC (P : Program) (ops : Array Oper) (Q : Exit → Act → World → Prop) (rest : List Oper) (n : Nat) (C : Cxs) (F : List (Nat × Value)) (w : World) : Prop := ∀ a, Fr n F a → HoldX C F a → wpList P ops Q rest a w

theorem HoldX.all {n : Nat} {F : List (Nat × Value)} {a : Act} (ha : Fr n F a) : ∀ {C : Cxs}, HoldX C F a → topX C = true → ∀ t v, look (allX C F) t = some v → a.tmps[t]? = some v
  | [], _, _, t, v, h => ha.slot t v h
  | (c, H) :: r, hC, hc, t, v, h => by
    obtain ⟨h1, h2, -, h4⟩ := hC
    rcases look_append h with h | h
    · exact h2 hc t v h
    · exact HoldX.all ha h4 (h1 hc) t v h
theorem HoldX.fr {n : Nat} {F : List (Nat × Value)} {a : Act} {C : Cxs} (ha : Fr n F a) (hC : HoldX C F a) (hc : topX C = true) : Fr n (allX C F) a := ⟨ha.size, ha.defers, hC.all ha hc⟩
/-- d is none of the known slots. -/
def freeX (d : Nat) : Cxs → List (Nat × Value) → Bool
  | [], F => (look F d).isNone
  | (_, H) :: r, F => (look H d).isNone && freeX d r F
theorem HoldX.put {F : List (Nat × Value)} {a : Act} {d : Nat} {v : Value} : ∀ {C : Cxs}, freeX d C F = true → HoldX C F a → HoldX C F (a.put (some d) v)
  | [], _, _ => trivial
  | (c, H) :: r, hf, hC => by
    simp only [freeX, Bool.and_eq_true] at hf
    obtain ⟨h1, h2, h3, h4⟩ := hC
    have hne : ∀ t u, look H t = some u → d ≠ t := fun t u ht e => by subst e; rw [ht] at hf; simp at hf
    refine ⟨h1, fun hc t u ht => ?_, fun hc t u ht => ?_, HoldX.put hf.2 h4⟩
    · simp only [Act.put]; rw [Array.getElem?_setIfInBounds_ne (hne t u ht)]; exact h2 hc t u ht
    · simp only [Act.put]; rw [Array.getElem?_setIfInBounds_ne (hne t u ht)]; exact h3 hc t u ht
theorem freeX_base {d : Nat} {F : List (Nat × Value)} : ∀ {C : Cxs}, freeX d C F = true → (look F d).isNone = true
  | [], h => h
  | (_, _) :: r, h => by simp only [freeX, Bool.and_eq_true] at h; exact freeX_base (C := r) h.2
theorem Fr.keep {n d : Nat} {F : List (Nat × Value)} {a : Act} {v : Value} (ha : Fr n F a) (hf : (look F d).isNone = true) : Fr n F (a.put (some d) v) := by
  refine ⟨by simp [Act.put, ha.size], ha.defers, fun t u ht => ?_⟩
  have hne : d ≠ t := fun e => by subst e; rw [ht] at hf; simp at hf
  simp only [Act.put]
  rw [Array.getElem?_setIfInBounds_ne hne]
  exact ha.slot t u ht

section
variable {P : Program} {ops : Array Oper} {Q : Exit → Act → World → Prop} {rest : List Oper} {o : Oper} {n d : Nat} {F : List (Nat × Value)} {C : Cxs} {w w' : World} {v : Value} {c : Bool} {H : List (Nat × Value)}

theorem SeqC.start (h : SeqC P ops Q rest n [] F w) : Seq P ops Q rest n F w := fun a ha => h a ha trivial
theorem SeqC.stop (h : Seq P ops Q rest n F w) : SeqC P ops Q rest n [] F w := fun a ha _ => h a ha

/-- The first operation under a new guard: the guard's slot lies in the innermost context. -/
theorem SeqC.open {j t : Nat} {b want : Bool} (hg : o.guard = some (j, want)) (ht : (ops[j]?).bind (·.dst) = some t) (hb : look (match C with | [] => F | (_, H) :: _ => H) t = some (.bool b)) (hd : o.dst = some d) (hn : Nat.blt d n = true) (hf : freeX d C F = true) (hdt : Nat.beq d t = false)
    (hrun : (topX C && (b == want)) = true → Runs P (evF (allX C F)) o w v w) (h : SeqC P ops Q rest n ((topX C && (b == want), [(d, v)]) :: C) F w) : SeqC P ops Q (o :: rest) n C F w := by
  intro a ha hC
  refine wpList_step fun K hK => ?_
  have hwant : Region.wanted o (yielded ops a.tmps) = (topX C && (b == want)) := by
    have hy : yielded ops a.tmps j = if topX C = true then some b else none := by
      unfold yielded
      simp only [ht, Option.bind_some]
      cases C with
      | nil => simp [topX, ha.slot t _ hb]
      | cons x r =>
        obtain ⟨c1, H1⟩ := x
        obtain ⟨h1, h2, h3, h4⟩ := hC
        cases c1
        · simp [topX, h3 rfl t _ hb, undef]
        · simp [topX, h2 rfl t _ hb]
    unfold Region.wanted
    simp only [hg, hy]
    cases topX C <;> cases b <;> cases want <;> rfl
  rw [hwant]
  have hbase := freeX_base hf
  cases hc : (topX C && (b == want)) with
  | true =>
    rw [if_pos rfl]
    have htop : topX C = true := by simp only [Bool.and_eq_true] at hc; exact hc.1
    unfold Oper.wp
    rw [hrun hc a.eval (hC.fr ha htop).ev, Oper.upon_value, hd]
    refine hK _ _ (h _ (ha.keep hbase) ⟨fun _ => htop, fun _ t' u hu => ?_, fun e => (by rw [hc] at e; cases e), hC.put hf⟩)
    rcases look_put hu with ⟨rfl, rfl⟩ | ⟨-, hu⟩
    · simp [Act.put, ha.size, Nat.blt_eq.mp hn]
    · cases hu
  | false =>
    rw [if_neg (by simp), hd]
    refine hK _ _ (h _ (ha.keep hbase) ⟨fun e => (by rw [hc] at e; cases e), fun e => (by rw [hc] at e; cases e), fun _ t' u hu => ?_, hC.put hf⟩)
    rcases look_put hu with ⟨rfl, rfl⟩ | ⟨-, hu⟩
    · simp [Act.put, ha.size, Nat.blt_eq.mp hn]
    · cases hu
/-- The next ones under the same guard. -/
theorem SeqC.next {j t : Nat} {b want : Bool} {c0 : Bool} (hg : o.guard = some (j, want)) (ht : (ops[j]?).bind (·.dst) = some t) (hb : look (match C with | [] => F | (_, H) :: _ => H) t = some (.bool b)) (hc0 : c0 = (topX C && (b == want))) (hd : o.dst = some d) (hn : Nat.blt d n = true) (hf : freeX d ((c0, H) :: C) F = true)
    (hrun : c0 = true → Runs P (evF (allX ((c0, H) :: C) F)) o w v w) (h : SeqC P ops Q rest n ((c0, (d, v) :: H) :: C) F w) : SeqC P ops Q (o :: rest) n ((c0, H) :: C) F w := by
  intro a ha hC
  obtain ⟨h1, h2, h3, h4⟩ := id hC
  refine wpList_step fun K hK => ?_
  have hwant : Region.wanted o (yielded ops a.tmps) = c0 := by
    rw [hc0]
    have hy : yielded ops a.tmps j = if topX C = true then some b else none := by
      unfold yielded
      simp only [ht, Option.bind_some]
      cases C with
      | nil => simp [topX, ha.slot t _ hb]
      | cons x r =>
        obtain ⟨c1, H1⟩ := x
        obtain ⟨g1, g2, g3, g4⟩ := h4
        cases c1
        · simp [topX, g3 rfl t _ hb, undef]
        · simp [topX, g2 rfl t _ hb]
    unfold Region.wanted
    simp only [hg, hy]
    cases topX C <;> cases b <;> cases want <;> rfl
  rw [hwant]
  have hbase := freeX_base hf
  have hne : ∀ t u, look H t = some u → d ≠ t := fun t u ht e => by
    subst e
    simp only [freeX, Bool.and_eq_true] at hf
    rw [ht] at hf; simp at hf
  have hf2 : freeX d C F = true := by simp only [freeX, Bool.and_eq_true] at hf; exact hf.2
  cases hc : c0 with
  | true =>
    rw [if_pos rfl]
    unfold Oper.wp
    rw [hrun hc a.eval (HoldX.fr ha hC hc).ev, Oper.upon_value, hd]
    refine hK _ _ (h _ (ha.keep hbase) ⟨h1, fun _ t' u hu => ?_, fun e => (by rw [hc] at e; cases e), h4.put hf2⟩)
    rcases look_put hu with ⟨rfl, rfl⟩ | ⟨-, hu⟩
    · simp [Act.put, ha.size, Nat.blt_eq.mp hn]
    · simp only [Act.put]; rw [Array.getElem?_setIfInBounds_ne (hne t' u hu)]; exact h2 hc t' u hu
  | false =>
    rw [if_neg (by simp), hd]
    refine hK _ _ (h _ (ha.keep hbase) ⟨h1, fun e => (by rw [hc] at e; cases e), fun _ t' u hu => ?_, h4.put hf2⟩)
    rcases look_put hu with ⟨rfl, rfl⟩ | ⟨-, hu⟩
    · simp [Act.put, ha.size, Nat.blt_eq.mp hn]
    · simp only [Act.put]; rw [Array.getElem?_setIfInBounds_ne (hne t' u hu)]; exact h3 hc t' u hu
/-- 'a || b', 'a && b': the pick that ends the innermost guard, itself under none. -/
theorem SeqC.pick {x y z : Operand} {b p e : Bool} (hg : o.guard = none) (ho : o.op = .pick x y z) (hx : evF F x = some (.bool b)) (hd : o.dst = some d) (hn : Nat.blt d n = true)
    (hv : (c = true → evF (H ++ F) (bif b then y else z) = some (.bool e)) ∧ (c = false → evF F (bif b then y else z) = some (.bool e)))
    (h : Seq P ops Q rest n ((d, .bool e) :: F) w) (_hp : p = p) : SeqC P ops Q (o :: rest) n [(c, H)] F w := by
  intro a ha hC
  refine wpList_plain hg fun K hK => ?_
  have hfr : c = true → Fr n (H ++ F) a := fun hc => HoldX.fr (C := [(c, H)]) ha hC hc
  unfold Oper.wp execOp
  simp only [ho, ha.ev _ _ hx]
  have hval : (if b then a.eval y else a.eval z) = .bool e := by
    have : a.eval (bif b then y else z) = .bool e := by
      cases hc : c with
      | true => exact (hfr hc).ev _ _ (hv.1 hc)
      | false => exact ha.ev _ _ (hv.2 hc)
    cases b <;> exact this
  have hrun : ((do let r ← asBool (.bool b); pure (Next.value (if r then a.eval y else a.eval z))) : Sem Next).run P w = .ok (.value (.bool e)) w := by
    show Result.ok (Next.value (if b then a.eval y else a.eval z)) w = _
    rw [hval]
  rw [hrun, Oper.upon_value, hd]
  exact hK _ _ (h _ (ha.put (Nat.blt_eq.mp hn)))
theorem SeqC.or {x : Operand} {k : Nat} {b p : Bool} (hg : o.guard = none) (ho : o.op = .pick x (.const (.bool true)) (.tmp k)) (hx : evF F x = some (.bool b)) (hc : c = (true && (b == false))) (hk : look H k = some (.bool p)) (hd : o.dst = some d) (hn : Nat.blt d n = true)
    (h : Seq P ops Q rest n ((d, .bool (b || p)) :: F) w) : SeqC P ops Q (o :: rest) n [(c, H)] F w := by
  subst hc
  refine SeqC.pick (b := b) (p := p) hg ho hx hd hn ⟨fun hc => ?_, fun hc => ?_⟩ h rfl
  · cases b
    · show look (H ++ F) k = _
      have : ∀ A : List (Nat × Value), look A k = some (.bool p) → look (A ++ F) k = some (.bool p) := by
        intro A
        induction A with
        | nil => intro h; cases h
        | cons q r ih =>
          obtain ⟨i, u⟩ := q
          intro h
          unfold look at h
          show (bif Nat.beq i k then some u else look (r ++ F) k) = _
          cases hb : Nat.beq i k with
          | true => rw [hb] at h; exact h
          | false => rw [hb] at h; exact ih h
      exact this H hk
    · cases hc
  · cases b
    · cases hc
    · rfl
theorem SeqC.and {x : Operand} {k : Nat} {b p : Bool} (hg : o.guard = none) (ho : o.op = .pick x (.tmp k) (.const (.bool false))) (hx : evF F x = some (.bool b)) (hc : c = (true && (b == true))) (hk : look H k = some (.bool p)) (hd : o.dst = some d) (hn : Nat.blt d n = true)
    (h : Seq P ops Q rest n ((d, .bool (b && p)) :: F) w) : SeqC P ops Q (o :: rest) n [(c, H)] F w := by
  subst hc
  refine SeqC.pick (b := b) (p := p) hg ho hx hd hn ⟨fun hc => ?_, fun hc => ?_⟩ h rfl
  · cases b
    · cases hc
    · show look (H ++ F) k = _
      have : ∀ A : List (Nat × Value), look A k = some (.bool p) → look (A ++ F) k = some (.bool p) := by
        intro A
        induction A with
        | nil => intro h; cases h
        | cons q r ih =>
          obtain ⟨i, u⟩ := q
          intro h
          unfold look at h
          show (bif Nat.beq i k then some u else look (r ++ F) k) = _
          cases hb : Nat.beq i k with
          | true => rw [hb] at h; exact h
          | false => rw [hb] at h; exact ih h
      exact this H hk
  · cases b
    · rfl
    · cases hc
/-- The end of an inner guard within an outer one. -/
theorem SeqC.close {j t : Nat} {b want : Bool} {c0 c2 : Bool} {H2 : List (Nat × Value)} (hg : o.guard = some (j, want)) (ht : (ops[j]?).bind (·.dst) = some t) (hb : look (match C with | [] => F | (_, H) :: _ => H) t = some (.bool b)) (hc0 : c0 = (topX C && (b == want))) (hd : o.dst = some d) (hn : Nat.blt d n = true) (hf : freeX d ((c0, H) :: C) F = true)
    (hrun : c0 = true → ∀ ρ : Operand → Value, (∀ x u, evF (allX ((c0, H) :: C) F) x = some u → ρ x = u) → (c2 = true → ∀ k u, look H2 k = some u → ρ (.tmp k) = u) → (execOp ρ o).run P w = .ok (.value v) w') (h : SeqC P ops Q rest n ((c0, (d, v) :: H) :: C) F w') (hw : c0 = false → w' = w) :
    SeqC P ops Q (o :: rest) n ((c2, H2) :: (c0, H) :: C) F w := by
  intro a ha hC0
  obtain ⟨-, q2, -, hC⟩ := hC0
  obtain ⟨h1, h2, h3, h4⟩ := id hC
  refine wpList_step fun K hK => ?_
  have hwant : Region.wanted o (yielded ops a.tmps) = c0 := by
    rw [hc0]
    have hy : yielded ops a.tmps j = if topX C = true then some b else none := by
      unfold yielded
      simp only [ht, Option.bind_some]
      cases C with
      | nil => simp [topX, ha.slot t _ hb]
      | cons x r =>
        obtain ⟨c1, H1⟩ := x
        obtain ⟨g1, g2, g3, g4⟩ := h4
        cases c1
        · simp [topX, g3 rfl t _ hb, undef]
        · simp [topX, g2 rfl t _ hb]
    unfold Region.wanted
    simp only [hg, hy]
    cases topX C <;> cases b <;> cases want <;> rfl
  rw [hwant]
  have hbase := freeX_base hf
  have hne : ∀ t u, look H t = some u → d ≠ t := fun t u ht e => by
    subst e
    simp only [freeX, Bool.and_eq_true] at hf
    rw [ht] at hf; simp at hf
  have hf2 : freeX d C F = true := by simp only [freeX, Bool.and_eq_true] at hf; exact hf.2
  cases hc : c0 with
  | true =>
    rw [if_pos rfl]
    unfold Oper.wp
    rw [hrun hc a.eval (HoldX.fr ha hC hc).ev (fun hc2 k u hk => by have := q2 hc2 k u hk; simp [Act.eval, this]), Oper.upon_value, hd]
    refine hK _ _ (h _ (ha.keep hbase) ⟨h1, fun _ t' u hu => ?_, fun e => (by rw [hc] at e; cases e), h4.put hf2⟩)
    rcases look_put hu with ⟨rfl, rfl⟩ | ⟨-, hu⟩
    · simp [Act.put, ha.size, Nat.blt_eq.mp hn]
    · simp only [Act.put]; rw [Array.getElem?_setIfInBounds_ne (hne t' u hu)]; exact h2 hc t' u hu
  | false =>
    rw [if_neg (by simp), hd, ← hw hc]
    refine hK _ _ (h _ (ha.keep hbase) ⟨h1, fun e => (by rw [hc] at e; cases e), fun _ t' u hu => ?_, h4.put hf2⟩)
    rcases look_put hu with ⟨rfl, rfl⟩ | ⟨-, hu⟩
    · simp [Act.put, ha.size, Nat.blt_eq.mp hn]
    · simp only [Act.put]; rw [Array.getElem?_setIfInBounds_ne (hne t' u hu)]; exact h3 hc t' u hu
theorem run_pickB {P : Program} {o : Oper} {x y z : Operand} {b e : Bool} {w : World} {ρ : Operand → Value} (ho : o.op = .pick x y z) (hx : ρ x = .bool b) (hv : ρ (bif b then y else z) = .bool e) : (execOp ρ o).run P w = .ok (.value (.bool e)) w := by
  unfold execOp
  simp only [ho, hx]
  show Result.ok (Next.value (if b then ρ y else ρ z)) w = _
  cases b <;> simpa using hv
theorem SeqC.orG {x : Operand} {k j t : Nat} {b p bg want : Bool} {c0 c2 : Bool} {H2 : List (Nat × Value)} (hg : o.guard = some (j, want)) (ht : (ops[j]?).bind (·.dst) = some t) (hb : look (match C with | [] => F | (_, H) :: _ => H) t = some (.bool bg)) (hc0 : c0 = (topX C && (bg == want))) (hd : o.dst = some d) (hn : Nat.blt d n = true) (hf : freeX d ((c0, H) :: C) F = true)
    (ho : o.op = .pick x (.const (.bool true)) (.tmp k)) (hx : evF (allX ((c0, H) :: C) F) x = some (.bool b)) (hc2 : c2 = (c0 && (b == false))) (hk : look H2 k = some (.bool p)) (h : SeqC P ops Q rest n ((c0, (d, .bool (b || p)) :: H) :: C) F w) : SeqC P ops Q (o :: rest) n ((c2, H2) :: (c0, H) :: C) F w := by
  refine SeqC.close hg ht hb hc0 hd hn hf (fun hc ρ hρ h2 => run_pickB ho (hρ _ _ hx) ?_) h (fun _ => rfl)
  cases b
  · exact h2 (by rw [hc2, hc]; rfl) k _ hk
  · exact hρ (.const (.bool true)) _ rfl
theorem SeqC.andG {x : Operand} {k j t : Nat} {b p bg want : Bool} {c0 c2 : Bool} {H2 : List (Nat × Value)} (hg : o.guard = some (j, want)) (ht : (ops[j]?).bind (·.dst) = some t) (hb : look (match C with | [] => F | (_, H) :: _ => H) t = some (.bool bg)) (hc0 : c0 = (topX C && (bg == want))) (hd : o.dst = some d) (hn : Nat.blt d n = true) (hf : freeX d ((c0, H) :: C) F = true)
    (ho : o.op = .pick x (.tmp k) (.const (.bool false))) (hx : evF (allX ((c0, H) :: C) F) x = some (.bool b)) (hc2 : c2 = (c0 && (b == true))) (hk : look H2 k = some (.bool p)) (h : SeqC P ops Q rest n ((c0, (d, .bool (b && p)) :: H) :: C) F w) : SeqC P ops Q (o :: rest) n ((c2, H2) :: (c0, H) :: C) F w := by
  refine SeqC.close hg ht hb hc0 hd hn hf (fun hc ρ hρ h2 => run_pickB ho (hρ _ _ hx) ?_) h (fun _ => rfl)
  cases b
  · exact hρ (.const (.bool false)) _ rfl
  · exact h2 (by rw [hc2, hc]; rfl) k _ hk
end
end Go.Proofs.YtefpejnmhlhnkaaGreatDoor
