/-
  The walk through a region that draws its order: lemmas for each operation. No condition.
-/
import Derived.Test.YtefpejnmhlhnkaaGreatDoorKD
set_option linter.unusedSectionVars false
namespace Go.RowKit
abbrev Grow (w w' : World) : Prop := Below w.heap.size w w'
theorem Grow.refl (w : World) : Grow w w := Below.refl _ _
theorem Grow.trans {a b c : World} (h : Grow a b) (k : Grow b c) : Grow a c := Below.trans h (k.mono h.size)
end Go.RowKit
namespace Go.Proofs.YtefpejnmhlhnkaaGreatDoor
open Go.RowKit
variable [Inhabited (List Deferred)]

section
variable {P : Program} {ops : Array Oper} {Q : Exit → Act → World → Prop} {n : Nat} {F0 X : List (Nat × Value)} {G : World → World → Prop} {w0 : World} {W : World → Prop} {Γ : Env} {o : Oper} {f : Fact} {v : Value} {tail r : List Oper} {B : Env → Prop} {k : Nat} {Φ : Value → World → Prop} {L : List Nat}

theorem lookE_spec {ds : List Nat} {a : Act} {w : World} (hs : ∀ t v, look F0 t = some v → a.tmps[t]? = some v) : ∀ {Γ : Env}, (∀ j d f, (j, d, f) ∈ Γ → j ∈ ds → ∃ u, (∀ t, d = some t → a.tmps[t]? = some u) ∧ f.holds u w) → ∀ {t v}, lookE F0 ds t Γ = some v → a.tmps[t]? = some v
  | [], _, t, v, h => hs t v h
  | (j, none, f) :: r, hF, t, v, h => lookE_spec hs (fun j d f hm => hF j d f (List.mem_cons_of_mem _ hm)) (Γ := r) h
  | (j, some d, .sat Φ) :: r, hF, t, v, h => by
    unfold lookE at h
    cases hb : Nat.beq d t with
    | true => rw [hb] at h; cases h
    | false => rw [hb] at h; exact lookE_spec hs (fun j d f hm => hF j d f (List.mem_cons_of_mem _ hm)) (Γ := r) h
  | (j, some d, .eq u) :: r, hF, t, v, h => by
    unfold lookE at h
    cases hb : Nat.beq d t with
    | true =>
      rw [hb] at h
      cases hm : memB ds j with
      | false => rw [hm] at h; cases h
      | true =>
        rw [hm] at h
        injection h with h
        subst h
        obtain ⟨u', h1, h2⟩ := hF j (some d) (.eq u) List.mem_cons_self (memB_spec hm)
        have := h1 d rfl
        rw [← Nat.eq_of_beq_eq_true hb, this, show u' = u from h2]
    | false => rw [hb] at h; exact lookE_spec hs (fun j d f hm => hF j d f (List.mem_cons_of_mem _ hm)) (Γ := r) h
/-- No number stands twice. -/
def uniq : Env → Bool
  | [] => true
  | (j, _, _) :: r => (Env.find r j).isNone && uniq r
theorem find_mem : ∀ {Γ : Env}, uniq Γ = true → ∀ {j d f}, (j, d, f) ∈ Γ → Env.find Γ j = some (d, f)
  | [], _, _, _, _, h => by cases h
  | (i, d', f') :: r, hu, j, d, f, h => by
    simp only [uniq, Bool.and_eq_true] at hu
    show (bif Nat.beq i j then some (d', f') else Env.find r j) = _
    rcases List.mem_cons.1 h with e | h
    · injection e with e1 e2
      injection e2 with e2 e3
      subst e1 e2 e3
      rw [Nat.beq_refl]; rfl
    · have hr := find_mem hu.2 h
      cases hb : Nat.beq i j with
      | true =>
        have e := Nat.eq_of_beq_eq_true hb
        subst e
        rw [hr] at hu
        simp at hu
      | false => exact hr
theorem evX_spec {a : Act} {w : World} (hu : uniq Γ = true) (hF : Facts Γ (· ∈ direct o) a w) (hs : ∀ t v, look F0 t = some v → a.tmps[t]? = some v) (hX : ∀ t v, look X t = some v → a.tmps[t]? = some v) : ∀ x u, evX X F0 Γ o x = some u → a.eval x = u := by
  intro x u hx
  cases x with
  | tmp t =>
    simp only [evX] at hx
    have : a.tmps[t]? = some u := by
      split at hx
      · rename_i v hv
        injection hx with hx
        subst hx
        exact hX t _ hv
      · exact lookE_spec hs (fun j d f hm hj => hF j d f (find_mem hu hm) hj) hx
    simp [Act.eval, this]
  | const v => exact Option.some.inj hx
  | global g => exact Option.some.inj hx
  | func f => exact Option.some.inj hx

variable (P Q n F0 G w0) in
def StepY (X : List (Nat × Value)) (W : World → Prop) (Γ : Env) (o : Oper) (f : Fact) : Prop := ∀ a w, a.tmps.size = n → G w0 w → W w → Facts Γ (· ∈ direct o) a w → (∀ t v, look F0 t = some v → a.tmps[t]? = some v) → (∀ t v, look X t = some v → a.tmps[t]? = some v) →
  o.wp P a w (fun a' w' => ∃ u, a' = a.put o.dst u ∧ G w w' ∧ f.holds u w') Q
theorem StepX.plain (hg : o.guard = none) (h : StepY P Q n F0 G w0 X W Γ o f) : StepX P ops Q n F0 G w0 X W Γ o f := by
  intro a w h1 h2 h3 h4 h5 h6
  rw [if_pos (by simp [Region.wanted, hg])]
  exact h a w h1 h2 h3 h4 h5 h6
theorem StepX.wanted {j t : Nat} {b : Bool} (hu : uniq Γ = true) (hg : o.guard = some (j, b)) (ht : (ops[j]?).bind (·.dst) = some t) (hb : evX X F0 Γ o (.tmp t) = some (.bool b)) (h : StepY P Q n F0 G w0 X W Γ o f) : StepX P ops Q n F0 G w0 X W Γ o f := by
  intro a w h1 h2 h3 h4 h5 h6
  have hv : a.tmps[t]? = some (.bool b) := by
    have := evX_spec hu h4 h5 h6 _ _ hb
    cases hh : a.tmps[t]? with
    | none => simp [Act.eval, hh, undef] at this
    | some u => simp [Act.eval, hh] at this; rw [this]
  rw [if_pos (by unfold Region.wanted yielded; simp only [hg, ht, Option.bind_some, hv]; simp)]
  exact h a w h1 h2 h3 h4 h5 h6
theorem StepX.skip {j t : Nat} {b b' : Bool} (hu : uniq Γ = true) (hg : o.guard = some (j, b)) (ht : (ops[j]?).bind (·.dst) = some t) (hb : evX X F0 Γ o (.tmp t) = some (.bool b')) (hne : b' = !b) : StepX P ops Q n F0 G w0 X W Γ o (.eq undef) := by
  intro a w h1 h2 h3 h4 h5 h6
  have hv : a.tmps[t]? = some (.bool b') := by
    have := evX_spec hu h4 h5 h6 _ _ hb
    cases hh : a.tmps[t]? with
    | none => simp [Act.eval, hh, undef] at this
    | some u => simp [Act.eval, hh] at this; rw [this]
  rw [if_neg (by unfold Region.wanted yielded; simp only [hg, ht, Option.bind_some, hv, hne]; cases b <;> simp)]
  rfl
theorem StepY.val (Gr : ∀ w, G w w) (hu : uniq Γ = true) (hrun : ∀ w, G w0 w → W w → Runs P (evX X F0 Γ o) o w v w) : StepY P Q n F0 G w0 X W Γ o (.eq v) := by
  intro a w h1 h2 h3 h4 h5 h6
  unfold Oper.wp
  rw [hrun w h2 h3 a.eval (evX_spec hu h4 h5 h6), Oper.upon_value]
  exact ⟨v, rfl, Gr w, rfl⟩
theorem StepY.make (hu : uniq Γ = true) (hrun : ∀ w, G w0 w → W w → ∃ v w', Runs P (evX X F0 Γ o) o w v w' ∧ G w w' ∧ Φ v w') : StepY P Q n F0 G w0 X W Γ o (.sat Φ) := by
  intro a w h1 h2 h3 h4 h5 h6
  obtain ⟨v, w', hr, hG, hΦ⟩ := hrun w h2 h3
  unfold Oper.wp
  rw [hr a.eval (evX_spec hu h4 h5 h6), Oper.upon_value]
  exact ⟨v, rfl, hG, hΦ⟩
theorem StepY.call {fn : FuncId} {args : Array Value} (hu : uniq Γ = true) (he : ∀ w, Enters P (evX X F0 Γ o) o w fn args) (hc : ∀ w, G w0 w → W w → Calls P fn args w fun e w' => ∃ v, e = .returned v ∧ G w w' ∧ Φ v w') : StepY P Q n F0 G w0 X W Γ o (.sat Φ) := by
  intro a w h1 h2 h3 h4 h5 h6
  unfold Oper.wp
  rw [he w a.eval (evX_spec hu h4 h5 h6), Oper.upon_enter]
  exact (hc w h2 h3).mono fun e w' ⟨v, e1, e2, e3⟩ => by subst e1; exact ⟨v, rfl, e2, e3⟩
theorem StepY.callV {fn : FuncId} {args : Array Value} (hu : uniq Γ = true) (he : ∀ w, Enters P (evX X F0 Γ o) o w fn args) (hc : ∀ w, G w0 w → W w → Calls P fn args w fun e w' => e = .returned v ∧ G w w') : StepY P Q n F0 G w0 X W Γ o (.eq v) := by
  intro a w h1 h2 h3 h4 h5 h6
  unfold Oper.wp
  rw [he w a.eval (evX_spec hu h4 h5 h6), Oper.upon_enter]
  exact (hc w h2 h3).mono fun e w' ⟨e1, e2⟩ => by subst e1; exact ⟨v, rfl, e2, rfl⟩
theorem StepX.open {j d : Nat} (hj : Env.find Γ j = some (some d, .sat Φ)) (hm : memB (direct o) j = true) (h : ∀ u, StepX P ops Q n F0 G w0 ((d, u) :: X) (fun w => W w ∧ Φ u w) Γ o f) : StepX P ops Q n F0 G w0 X W Γ o f := by
  intro a w h1 h2 h3 h4 h5 h6
  obtain ⟨u, g1, g2⟩ := h4 j _ _ hj (memB_spec hm)
  refine h u a w h1 h2 ⟨h3, g2⟩ h4 h5 fun t v ht => ?_
  rcases look_put ht with ⟨rfl, rfl⟩ | ⟨-, ht⟩
  · exact g1 _ rfl
  · exact h6 t v ht

theorem Dr.cons (hs : Fact.Stable G f) (hstep : StepX P ops Q n F0 G w0 [] (fun _ => True) Γ o f) (hr : DrW P ops Q n F0 G w0 L B (k + 1) r ((k, o.dst, f) :: Γ)) (hl : memB L k = false := by rfl) : DrW P ops Q n F0 G w0 L B k (o :: r) Γ := ⟨f, hs, hstep, (fun h => by rw [hl] at h; cases h), hr⟩
theorem Dr.val (Gr : ∀ w, G w w) (hu : uniq Γ = true) (hrun : ∀ w, G w0 w → Runs P (evX [] F0 Γ o) o w v w) (hg : o.guard = none) (hr : DrW P ops Q n F0 G w0 L B (k + 1) r ((k, o.dst, .eq v) :: Γ)) (hl : memB L k = false := by rfl) : DrW P ops Q n F0 G w0 L B k (o :: r) Γ :=
  ⟨.eq v, trivial, .plain hg (.val Gr hu fun w h _ => hrun w h), (fun h => by rw [hl] at h; cases h), hr⟩
theorem Dr.valG {j t : Nat} {b : Bool} (Gr : ∀ w, G w w) (hu : uniq Γ = true) (hrun : ∀ w, G w0 w → Runs P (evX [] F0 Γ o) o w v w) (hg : o.guard = some (j, b)) (ht : (ops[j]?).bind (·.dst) = some t) (hb : evX [] F0 Γ o (.tmp t) = some (.bool b)) (hr : DrW P ops Q n F0 G w0 L B (k + 1) r ((k, o.dst, .eq v) :: Γ)) (hl : memB L k = false := by rfl) : DrW P ops Q n F0 G w0 L B k (o :: r) Γ :=
  ⟨.eq v, trivial, .wanted hu hg ht hb (.val Gr hu fun w h _ => hrun w h), (fun h => by rw [hl] at h; cases h), hr⟩
theorem Dr.skip {j t : Nat} {b b' : Bool} (hu : uniq Γ = true) (hg : o.guard = some (j, b)) (ht : (ops[j]?).bind (·.dst) = some t) (hb : evX [] F0 Γ o (.tmp t) = some (.bool b')) (hne : b' = !b) (hr : DrW P ops Q n F0 G w0 L B (k + 1) r ((k, o.dst, .eq undef) :: Γ)) (hl : memB L k = false := by rfl) : DrW P ops Q n F0 G w0 L B k (o :: r) Γ :=
  ⟨.eq undef, trivial, .skip hu hg ht hb hne, (fun h => by rw [hl] at h; cases h), hr⟩
theorem Dr.call {fn : FuncId} {args : Array Value} (hu : uniq Γ = true) (he : ∀ w, Enters P (evX [] F0 Γ o) o w fn args) (hg : o.guard = none) (hs : ∀ v w w', G w w' → Φ v w → Φ v w') (hc : ∀ w, G w0 w → Calls P fn args w fun e w' => ∃ v, e = .returned v ∧ G w w' ∧ Φ v w')
    (hr : DrW P ops Q n F0 G w0 L B (k + 1) r ((k, o.dst, .sat Φ) :: Γ)) (hl : memB L k = false := by rfl) : DrW P ops Q n F0 G w0 L B k (o :: r) Γ :=
  ⟨.sat Φ, hs, .plain hg (.call hu he fun w h _ => hc w h), (fun h => by rw [hl] at h; cases h), hr⟩
theorem Dr.callV {fn : FuncId} {args : Array Value} (hu : uniq Γ = true) (he : ∀ w, Enters P (evX [] F0 Γ o) o w fn args) (hg : o.guard = none) (hc : ∀ w, G w0 w → Calls P fn args w fun e w' => e = .returned v ∧ G w w')
    (hr : DrW P ops Q n F0 G w0 L B (k + 1) r ((k, o.dst, .eq v) :: Γ)) (hl : memB L k = false := by rfl) : DrW P ops Q n F0 G w0 L B k (o :: r) Γ :=
  ⟨.eq v, trivial, .plain hg (.callV hu he fun w h _ => hc w h), (fun h => by rw [hl] at h; cases h), hr⟩
/-- Operations that may come up late. -/
theorem Dr.late (hl : memB L k = true) (hu : uniq Γ = true) (hrun : ∀ w, Runs P (evX [] F0 Γ o) o w v w) (Gr : ∀ w, G w w) (hg : o.guard = none) (hr : DrW P ops Q n F0 G w0 L B (k + 1) r ((k, o.dst, .eq v) :: Γ)) : DrW P ops Q n F0 G w0 L B k (o :: r) Γ :=
  ⟨.eq v, trivial, .plain hg (.val Gr hu fun w _ _ => hrun w), (fun _ => ⟨v, rfl, fun a w _ _ _ h4 h5 h6 => .inl ⟨by simp [Region.wanted, hg], fun w' => hrun w' a.eval (evX_spec hu h4 h5 h6)⟩⟩), hr⟩
theorem Dr.late1 {j d : Nat} {Ψ : Value → World → Prop} (hl : memB L k = true) (hj : Env.find Γ j = some (some d, .sat Ψ)) (hm : memB (direct o) j = true) (hu : uniq Γ = true) (hrun : ∀ u w w', G w0 w → Ψ u w → Runs P (evX [(d, u)] F0 Γ o) o w' v w') (Gr : ∀ w, G w w) (hg : o.guard = none)
    (hr : DrW P ops Q n F0 G w0 L B (k + 1) r ((k, o.dst, .eq v) :: Γ)) : DrW P ops Q n F0 G w0 L B k (o :: r) Γ :=
  ⟨.eq v, trivial, .open hj hm fun u => .plain hg (.val Gr hu fun w h h2 => hrun u w w h h2.2), (fun _ => ⟨v, rfl, fun a w _ h2 _ h4 h5 _ => .inl ⟨by simp [Region.wanted, hg], fun w' => by
    obtain ⟨u, g1, g2⟩ := h4 j _ _ hj (memB_spec hm)
    refine hrun u w w' h2 g2 a.eval (evX_spec hu h4 h5 fun t v ht => ?_)
    rcases look_put ht with ⟨rfl, rfl⟩ | ⟨-, ht⟩
    · exact g1 _ rfl
    · cases ht⟩⟩), hr⟩
theorem Dr.make (hu : uniq Γ = true) (hs : ∀ v w w', G w w' → Φ v w → Φ v w') (hg : o.guard = none) (hrun : ∀ w, G w0 w → ∃ v w', Runs P (evX [] F0 Γ o) o w v w' ∧ G w w' ∧ Φ v w') (hr : DrW P ops Q n F0 G w0 L B (k + 1) r ((k, o.dst, .sat Φ) :: Γ)) (hl : memB L k = false := by rfl) : DrW P ops Q n F0 G w0 L B k (o :: r) Γ :=
  ⟨.sat Φ, hs, .plain hg (.make hu fun w h _ => hrun w h), (fun h => by rw [hl] at h; cases h), hr⟩
/-- With one predecessor's result opened. -/
theorem Dr.call1 {fn : FuncId} {args : Value → Array Value} {j d : Nat} {Ψ : Value → World → Prop} (hj : Env.find Γ j = some (some d, .sat Ψ)) (hm : memB (direct o) j = true) (hu : uniq Γ = true) (he : ∀ u w, Enters P (evX [(d, u)] F0 Γ o) o w fn (args u)) (hg : o.guard = none) (hs : ∀ v w w', G w w' → Φ v w → Φ v w')
    (hc : ∀ u w, G w0 w → Ψ u w → Calls P fn (args u) w fun e w' => ∃ v, e = .returned v ∧ G w w' ∧ Φ v w')
    (hr : DrW P ops Q n F0 G w0 L B (k + 1) r ((k, o.dst, .sat Φ) :: Γ)) (hl : memB L k = false := by rfl) : DrW P ops Q n F0 G w0 L B k (o :: r) Γ :=
  ⟨.sat Φ, hs, .open hj hm fun u => .plain hg (.call hu (he u) fun w h h2 => hc u w h h2.2), (fun h => by rw [hl] at h; cases h), hr⟩
theorem Dr.call1V {fn : FuncId} {args : Value → Array Value} {j d : Nat} {Ψ : Value → World → Prop} (hj : Env.find Γ j = some (some d, .sat Ψ)) (hm : memB (direct o) j = true) (hu : uniq Γ = true) (he : ∀ u w, Enters P (evX [(d, u)] F0 Γ o) o w fn (args u)) (hg : o.guard = none)
    (hc : ∀ u w, G w0 w → Ψ u w → Calls P fn (args u) w fun e w' => e = .returned v ∧ G w w')
    (hr : DrW P ops Q n F0 G w0 L B (k + 1) r ((k, o.dst, .eq v) :: Γ)) (hl : memB L k = false := by rfl) : DrW P ops Q n F0 G w0 L B k (o :: r) Γ :=
  ⟨.eq v, trivial, .open hj hm fun u => .plain hg (.callV hu (he u) fun w h h2 => hc u w h h2.2), (fun h => by rw [hl] at h; cases h), hr⟩
theorem Dr.call2 {fn : FuncId} {args : Value → Value → Array Value} {j d j' d' : Nat} {Ψ Ψ' : Value → World → Prop} (hj : Env.find Γ j = some (some d, .sat Ψ)) (hm : memB (direct o) j = true) (hj' : Env.find Γ j' = some (some d', .sat Ψ')) (hm' : memB (direct o) j' = true) (hu : uniq Γ = true)
    (he : ∀ u u' w, Enters P (evX [(d', u'), (d, u)] F0 Γ o) o w fn (args u u')) (hg : o.guard = none) (hs : ∀ v w w', G w w' → Φ v w → Φ v w')
    (hc : ∀ u u' w, G w0 w → Ψ u w → Ψ' u' w → Calls P fn (args u u') w fun e w' => ∃ v, e = .returned v ∧ G w w' ∧ Φ v w')
    (hr : DrW P ops Q n F0 G w0 L B (k + 1) r ((k, o.dst, .sat Φ) :: Γ)) (hl : memB L k = false := by rfl) : DrW P ops Q n F0 G w0 L B k (o :: r) Γ :=
  ⟨.sat Φ, hs, .open hj hm fun u => .open hj' hm' fun u' => .plain hg (.call hu (he u u') fun w h h2 => hc u u' w h h2.1.2 h2.2), (fun h => by rw [hl] at h; cases h), hr⟩
theorem Dr.call2V {fn : FuncId} {args : Value → Value → Array Value} {j d j' d' : Nat} {Ψ Ψ' : Value → World → Prop} (hj : Env.find Γ j = some (some d, .sat Ψ)) (hm : memB (direct o) j = true) (hj' : Env.find Γ j' = some (some d', .sat Ψ')) (hm' : memB (direct o) j' = true) (hu : uniq Γ = true)
    (he : ∀ u u' w, Enters P (evX [(d', u'), (d, u)] F0 Γ o) o w fn (args u u')) (hg : o.guard = none)
    (hc : ∀ u u' w, G w0 w → Ψ u w → Ψ' u' w → Calls P fn (args u u') w fun e w' => e = .returned v ∧ G w w')
    (hr : DrW P ops Q n F0 G w0 L B (k + 1) r ((k, o.dst, .eq v) :: Γ)) (hl : memB L k = false := by rfl) : DrW P ops Q n F0 G w0 L B k (o :: r) Γ :=
  ⟨.eq v, trivial, .open hj hm fun u => .open hj' hm' fun u' => .plain hg (.callV hu (he u u') fun w h h2 => hc u u' w h h2.1.2 h2.2), (fun h => by rw [hl] at h; cases h), hr⟩
/-- A value that is read off a predecessor's result. -/
theorem Dr.val1 {j d : Nat} {Ψ : Value → World → Prop} (Gr : ∀ w, G w w) (hj : Env.find Γ j = some (some d, .sat Ψ)) (hm : memB (direct o) j = true) (hu : uniq Γ = true) (hs : ∀ v w w', G w w' → Φ v w → Φ v w') (hg : o.guard = none)
    (hrun : ∀ u w, G w0 w → Ψ u w → ∃ v, Runs P (evX [(d, u)] F0 Γ o) o w v w ∧ Φ v w) (hr : DrW P ops Q n F0 G w0 L B (k + 1) r ((k, o.dst, .sat Φ) :: Γ)) (hl : memB L k = false := by rfl) : DrW P ops Q n F0 G w0 L B k (o :: r) Γ :=
  ⟨.sat Φ, hs, .open hj hm fun u => .plain hg (.make hu fun w h h2 => by obtain ⟨v, h3, h4⟩ := hrun u w h h2.2; exact ⟨v, w, h3, Gr w, h4⟩), (fun h => by rw [hl] at h; cases h), hr⟩
theorem Dr.val1V {j d : Nat} {Ψ : Value → World → Prop} (Gr : ∀ w, G w w) (hj : Env.find Γ j = some (some d, .sat Ψ)) (hm : memB (direct o) j = true) (hu : uniq Γ = true) (hg : o.guard = none)
    (hrun : ∀ u w, G w0 w → Ψ u w → Runs P (evX [(d, u)] F0 Γ o) o w v w) (hr : DrW P ops Q n F0 G w0 L B (k + 1) r ((k, o.dst, .eq v) :: Γ)) (hl : memB L k = false := by rfl) : DrW P ops Q n F0 G w0 L B k (o :: r) Γ :=
  ⟨.eq v, trivial, .open hj hm fun u => .plain hg (.val Gr hu fun w h h2 => hrun u w h h2.2), (fun h => by rw [hl] at h; cases h), hr⟩

theorem Dr.callG {fn : FuncId} {args : Array Value} (hu : uniq Γ = true) (he : ∀ w, Enters P (evX [] F0 Γ o) o w fn args) {jg tg : Nat} {bg : Bool} (hg : o.guard = some (jg, bg)) (ht : (ops[jg]?).bind (·.dst) = some tg) (hb : evX [] F0 Γ o (.tmp tg) = some (.bool bg)) (hs : ∀ v w w', G w w' → Φ v w → Φ v w') (hc : ∀ w, G w0 w → Calls P fn args w fun e w' => ∃ v, e = .returned v ∧ G w w' ∧ Φ v w')
    (hr : DrW P ops Q n F0 G w0 L B (k + 1) r ((k, o.dst, .sat Φ) :: Γ)) (hl : memB L k = false := by rfl) : DrW P ops Q n F0 G w0 L B k (o :: r) Γ :=
  ⟨.sat Φ, hs, .wanted hu hg ht hb (.call hu he fun w h _ => hc w h), (fun h => by rw [hl] at h; cases h), hr⟩
theorem Dr.callVG {fn : FuncId} {args : Array Value} (hu : uniq Γ = true) (he : ∀ w, Enters P (evX [] F0 Γ o) o w fn args) {jg tg : Nat} {bg : Bool} (hg : o.guard = some (jg, bg)) (ht : (ops[jg]?).bind (·.dst) = some tg) (hb : evX [] F0 Γ o (.tmp tg) = some (.bool bg)) (hc : ∀ w, G w0 w → Calls P fn args w fun e w' => e = .returned v ∧ G w w')
    (hr : DrW P ops Q n F0 G w0 L B (k + 1) r ((k, o.dst, .eq v) :: Γ)) (hl : memB L k = false := by rfl) : DrW P ops Q n F0 G w0 L B k (o :: r) Γ :=
  ⟨.eq v, trivial, .wanted hu hg ht hb (.callV hu he fun w h _ => hc w h), (fun h => by rw [hl] at h; cases h), hr⟩
theorem Dr.makeG (hu : uniq Γ = true) (hs : ∀ v w w', G w w' → Φ v w → Φ v w') {jg tg : Nat} {bg : Bool} (hg : o.guard = some (jg, bg)) (ht : (ops[jg]?).bind (·.dst) = some tg) (hb : evX [] F0 Γ o (.tmp tg) = some (.bool bg)) (hrun : ∀ w, G w0 w → ∃ v w', Runs P (evX [] F0 Γ o) o w v w' ∧ G w w' ∧ Φ v w') (hr : DrW P ops Q n F0 G w0 L B (k + 1) r ((k, o.dst, .sat Φ) :: Γ)) (hl : memB L k = false := by rfl) : DrW P ops Q n F0 G w0 L B k (o :: r) Γ :=
  ⟨.sat Φ, hs, .wanted hu hg ht hb (.make hu fun w h _ => hrun w h), (fun h => by rw [hl] at h; cases h), hr⟩
theorem Dr.call1G {fn : FuncId} {args : Value → Array Value} {j d : Nat} {Ψ : Value → World → Prop} (hj : Env.find Γ j = some (some d, .sat Ψ)) (hm : memB (direct o) j = true) (hu : uniq Γ = true) (he : ∀ u w, Enters P (evX [(d, u)] F0 Γ o) o w fn (args u)) {jg tg : Nat} {bg : Bool} (hg : o.guard = some (jg, bg)) (ht : (ops[jg]?).bind (·.dst) = some tg) (hb : ∀ u, evX [(d, u)] F0 Γ o (.tmp tg) = some (.bool bg)) (hs : ∀ v w w', G w w' → Φ v w → Φ v w')
    (hc : ∀ u w, G w0 w → Ψ u w → Calls P fn (args u) w fun e w' => ∃ v, e = .returned v ∧ G w w' ∧ Φ v w')
    (hr : DrW P ops Q n F0 G w0 L B (k + 1) r ((k, o.dst, .sat Φ) :: Γ)) (hl : memB L k = false := by rfl) : DrW P ops Q n F0 G w0 L B k (o :: r) Γ :=
  ⟨.sat Φ, hs, .open hj hm fun u => .wanted hu hg ht (hb u) (.call hu (he u) fun w h h2 => hc u w h h2.2), (fun h => by rw [hl] at h; cases h), hr⟩
theorem Dr.call1VG {fn : FuncId} {args : Value → Array Value} {j d : Nat} {Ψ : Value → World → Prop} (hj : Env.find Γ j = some (some d, .sat Ψ)) (hm : memB (direct o) j = true) (hu : uniq Γ = true) (he : ∀ u w, Enters P (evX [(d, u)] F0 Γ o) o w fn (args u)) {jg tg : Nat} {bg : Bool} (hg : o.guard = some (jg, bg)) (ht : (ops[jg]?).bind (·.dst) = some tg) (hb : ∀ u, evX [(d, u)] F0 Γ o (.tmp tg) = some (.bool bg))
    (hc : ∀ u w, G w0 w → Ψ u w → Calls P fn (args u) w fun e w' => e = .returned v ∧ G w w')
    (hr : DrW P ops Q n F0 G w0 L B (k + 1) r ((k, o.dst, .eq v) :: Γ)) (hl : memB L k = false := by rfl) : DrW P ops Q n F0 G w0 L B k (o :: r) Γ :=
  ⟨.eq v, trivial, .open hj hm fun u => .wanted hu hg ht (hb u) (.callV hu (he u) fun w h h2 => hc u w h h2.2), (fun h => by rw [hl] at h; cases h), hr⟩
theorem Dr.call2G {fn : FuncId} {args : Value → Value → Array Value} {j d j' d' : Nat} {Ψ Ψ' : Value → World → Prop} (hj : Env.find Γ j = some (some d, .sat Ψ)) (hm : memB (direct o) j = true) (hj' : Env.find Γ j' = some (some d', .sat Ψ')) (hm' : memB (direct o) j' = true) (hu : uniq Γ = true)
    (he : ∀ u u' w, Enters P (evX [(d', u'), (d, u)] F0 Γ o) o w fn (args u u')) {jg tg : Nat} {bg : Bool} (hg : o.guard = some (jg, bg)) (ht : (ops[jg]?).bind (·.dst) = some tg) (hb : ∀ u u', evX [(d', u'), (d, u)] F0 Γ o (.tmp tg) = some (.bool bg)) (hs : ∀ v w w', G w w' → Φ v w → Φ v w')
    (hc : ∀ u u' w, G w0 w → Ψ u w → Ψ' u' w → Calls P fn (args u u') w fun e w' => ∃ v, e = .returned v ∧ G w w' ∧ Φ v w')
    (hr : DrW P ops Q n F0 G w0 L B (k + 1) r ((k, o.dst, .sat Φ) :: Γ)) (hl : memB L k = false := by rfl) : DrW P ops Q n F0 G w0 L B k (o :: r) Γ :=
  ⟨.sat Φ, hs, .open hj hm fun u => .open hj' hm' fun u' => .wanted hu hg ht (hb u u') (.call hu (he u u') fun w h h2 => hc u u' w h h2.1.2 h2.2), (fun h => by rw [hl] at h; cases h), hr⟩
theorem Dr.call2VG {fn : FuncId} {args : Value → Value → Array Value} {j d j' d' : Nat} {Ψ Ψ' : Value → World → Prop} (hj : Env.find Γ j = some (some d, .sat Ψ)) (hm : memB (direct o) j = true) (hj' : Env.find Γ j' = some (some d', .sat Ψ')) (hm' : memB (direct o) j' = true) (hu : uniq Γ = true)
    (he : ∀ u u' w, Enters P (evX [(d', u'), (d, u)] F0 Γ o) o w fn (args u u')) {jg tg : Nat} {bg : Bool} (hg : o.guard = some (jg, bg)) (ht : (ops[jg]?).bind (·.dst) = some tg) (hb : ∀ u u', evX [(d', u'), (d, u)] F0 Γ o (.tmp tg) = some (.bool bg))
    (hc : ∀ u u' w, G w0 w → Ψ u w → Ψ' u' w → Calls P fn (args u u') w fun e w' => e = .returned v ∧ G w w')
    (hr : DrW P ops Q n F0 G w0 L B (k + 1) r ((k, o.dst, .eq v) :: Γ)) (hl : memB L k = false := by rfl) : DrW P ops Q n F0 G w0 L B k (o :: r) Γ :=
  ⟨.eq v, trivial, .open hj hm fun u => .open hj' hm' fun u' => .wanted hu hg ht (hb u u') (.callV hu (he u u') fun w h h2 => hc u u' w h h2.1.2 h2.2), (fun h => by rw [hl] at h; cases h), hr⟩
theorem Dr.val1G {j d : Nat} {Ψ : Value → World → Prop} (Gr : ∀ w, G w w) (hj : Env.find Γ j = some (some d, .sat Ψ)) (hm : memB (direct o) j = true) (hu : uniq Γ = true) (hs : ∀ v w w', G w w' → Φ v w → Φ v w') {jg tg : Nat} {bg : Bool} (hg : o.guard = some (jg, bg)) (ht : (ops[jg]?).bind (·.dst) = some tg) (hb : ∀ u, evX [(d, u)] F0 Γ o (.tmp tg) = some (.bool bg))
    (hrun : ∀ u w, G w0 w → Ψ u w → ∃ v, Runs P (evX [(d, u)] F0 Γ o) o w v w ∧ Φ v w) (hr : DrW P ops Q n F0 G w0 L B (k + 1) r ((k, o.dst, .sat Φ) :: Γ)) (hl : memB L k = false := by rfl) : DrW P ops Q n F0 G w0 L B k (o :: r) Γ :=
  ⟨.sat Φ, hs, .open hj hm fun u => .wanted hu hg ht (hb u) (.make hu fun w h h2 => by obtain ⟨v, h3, h4⟩ := hrun u w h h2.2; exact ⟨v, w, h3, Gr w, h4⟩), (fun h => by rw [hl] at h; cases h), hr⟩
theorem Dr.val1VG {j d : Nat} {Ψ : Value → World → Prop} (Gr : ∀ w, G w w) (hj : Env.find Γ j = some (some d, .sat Ψ)) (hm : memB (direct o) j = true) (hu : uniq Γ = true) {jg tg : Nat} {bg : Bool} (hg : o.guard = some (jg, bg)) (ht : (ops[jg]?).bind (·.dst) = some tg) (hb : ∀ u, evX [(d, u)] F0 Γ o (.tmp tg) = some (.bool bg))
    (hrun : ∀ u w, G w0 w → Ψ u w → Runs P (evX [(d, u)] F0 Γ o) o w v w) (hr : DrW P ops Q n F0 G w0 L B (k + 1) r ((k, o.dst, .eq v) :: Γ)) (hl : memB L k = false := by rfl) : DrW P ops Q n F0 G w0 L B k (o :: r) Γ :=
  ⟨.eq v, trivial, .open hj hm fun u => .wanted hu hg ht (hb u) (.val Gr hu fun w h h2 => hrun u w h h2.2), (fun h => by rw [hl] at h; cases h), hr⟩

/-! The end of the first part. -/
def knownE (F0 : List (Nat × Value)) : Env → List (Nat × Value)
  | [] => F0
  | (_, some d, .eq v) :: r => (d, v) :: knownE F0 r
  | _ :: r => knownE F0 r
theorem knownE_spec {a : Act} {w : World} (hs : ∀ t v, look F0 t = some v → a.tmps[t]? = some v) : ∀ {Γ : Env}, (∀ j d f, (j, d, f) ∈ Γ → ∃ u, (∀ t, d = some t → a.tmps[t]? = some u) ∧ f.holds u w) → ∀ t v, look (knownE F0 Γ) t = some v → a.tmps[t]? = some v
  | [], _, t, v, h => hs t v h
  | (j, none, f) :: r, hF, t, v, h => knownE_spec hs (fun j d f hm => hF j d f (List.mem_cons_of_mem _ hm)) (Γ := r) t v h
  | (j, some d, .sat Φ) :: r, hF, t, v, h => knownE_spec hs (fun j d f hm => hF j d f (List.mem_cons_of_mem _ hm)) (Γ := r) t v h
  | (j, some d, .eq u) :: r, hF, t, v, h => by
    rcases look_put h with ⟨rfl, rfl⟩ | ⟨-, h⟩
    · obtain ⟨u', h1, h2⟩ := hF j (some d) (.eq u) List.mem_cons_self
      rw [h1 d rfl, show u' = u from h2]
    · exact knownE_spec hs (fun j d f hm => hF j d f (List.mem_cons_of_mem _ hm)) (Γ := r) t v h
theorem look_append {A B : List (Nat × Value)} {t : Nat} {v : Value} (h : look (A ++ B) t = some v) : look A t = some v ∨ look B t = some v := by
  induction A with
  | nil => exact .inr h
  | cons p r ih =>
    obtain ⟨k, u⟩ := p
    rcases look_put h with ⟨rfl, rfl⟩ | ⟨hne, h⟩
    · refine .inl ?_
      unfold look
      rw [Nat.beq_refl]; rfl
    · rcases ih h with h | h
      · refine .inl ?_
        show (bif Nat.beq k t then some u else look r t) = _
        cases hb : Nat.beq k t with
        | true => exact absurd (Nat.eq_of_beq_eq_true hb) hne
        | false => exact h
      · exact .inr h
theorem Dr.nil (h : B Γ) : DrW P ops Q n F0 G w0 L B k [] Γ := h
theorem FinX.open {j d : Nat} (hj : Env.find Γ j = some (some d, .sat Φ)) (h : ∀ u, FinX P ops Q n F0 G w0 tail ((d, u) :: X) (fun w => W w ∧ Φ u w) Γ) : FinX P ops Q n F0 G w0 tail X W Γ := by
  intro a w h1 h1' h2 h3 h4 h5 h6
  obtain ⟨u, g1, g2⟩ := h4 j _ _ hj trivial
  refine h u a w h1 h1' h2 ⟨h3, g2⟩ h4 h5 fun t v ht => ?_
  rcases look_put ht with ⟨rfl, rfl⟩ | ⟨-, ht⟩
  · exact g1 _ rfl
  · exact h6 t v ht
theorem FinX.done {F' : List (Nat × Value)} (hu : uniq Γ = true) (hsub : Sub F' (X ++ knownE F0 Γ)) (h : ∀ w, G w0 w → W w → Seq P ops Q tail n F' w) : FinX P ops Q n F0 G w0 tail X W Γ := by
  intro a w h1 h1' h2 h3 h4 h5 h6
  refine h w h2 h3 a (Fr.sub ⟨h1, h1', fun t v ht => ?_⟩ hsub)
  rcases look_append ht with ht | ht
  · exact h6 t v ht
  · exact knownE_spec h5 (fun j d f hm => h4 j d f (find_mem hu hm) trivial) t v ht
/-- A region that draws: its first m operations come up in whatever order, the others in theirs. -/
theorem Cd.draw (m : Nat) {id : Nat} {l : List Oper} {w : World} (hm : P.follows .mixedOrders = true) (L : List Nat) (hQ : L = [] ∨ ∀ c (a : Act) d v w, Q (.panic c) (a.put d v) w → Q (.panic c) a w) (hchk : chkAll n (keysOf F0) L (l.take m) (l.drop m) = true) (G : World → World → Prop) (Gr : ∀ w, G w w) (Gt : ∀ a b c, G a b → G b c → G a c)
    (h : ∀ w0, Below w.heap.size w w0 → w0.heap.size = w.heap.size → DrW P l.toArray Q n F0 G w0 L (FinX P l.toArray Q n F0 G w0 (l.drop m) [] (fun _ => True)) 0 (l.take m) []) : Cd P (.region id l.toArray true) Q n F0 w := fun _ ha =>
  wp_draw L [] (fun i o h _ => by cases h) (fun i h => by cases h) (.inl rfl) hQ hm (by rw [List.take_append_drop]) hchk Gt Gr rfl (DrW.mono (fun Γ hΓ a w h1 h2 h3 h4 h5 h6 h7 _ => hΓ a w h1 h2 h3 h4 h5 h6 h7) _ _ _ (h { w with drawn := w.drawn + 1 } ⟨rfl, rfl, rfl, Nat.le_refl _, fun _ _ => rfl⟩ rfl)) ha
/-- The same, new blocks being told apart. -/
theorem Cd.drawD (m : Nat) (AL : List Nat) {id : Nat} {l : List Oper} {w : World} (hm : P.follows .mixedOrders = true) (L : List Nat) (hAL : ∀ i o, memB AL i = true → (l.take m)[i]? = some o → Makes P o) (hALL : ∀ i, memB AL i = true → memB L i = false) (hQ : L = [] ∨ ∀ c (a : Act) d v w, Q (.panic c) (a.put d v) w → Q (.panic c) a w) (hchk : chkAll n (keysOf F0) L (l.take m) (l.drop m) = true)
    (h : ∀ w0, Below w.heap.size w w0 → w0.heap.size = w.heap.size → DrW P l.toArray Q n F0 Grow w0 L (FinD P l.toArray Q n F0 Grow w0 AL (l.drop m) [] (fun _ => True)) 0 (l.take m) []) : Cd P (.region id l.toArray true) Q n F0 w := fun _ ha =>
  wp_draw (G := Grow) L AL hAL hALL (.inr fun _ _ hG => hG.size) hQ hm (by rw [List.take_append_drop]) hchk (fun _ _ _ => Grow.trans) Grow.refl rfl (h { w with drawn := w.drawn + 1 } ⟨rfl, rfl, rfl, Nat.le_refl _, fun _ _ => rfl⟩ rfl) ha
theorem FinD.open {AL : List Nat} {j d : Nat} (hj : Env.find Γ j = some (some d, .sat Φ)) (h : ∀ u, FinD P ops Q n F0 G w0 AL tail ((d, u) :: X) (fun w => W w ∧ Φ u w) Γ) : FinD P ops Q n F0 G w0 AL tail X W Γ := by
  intro a w h1 h1' h2 h3 h4 h5 h6 h7
  obtain ⟨u, g1, g2⟩ := h4 j _ _ hj trivial
  refine h u a w h1 h1' h2 ⟨h3, g2⟩ h4 h5 (fun t v ht => ?_) h7
  rcases look_put ht with ⟨rfl, rfl⟩ | ⟨-, ht⟩
  · exact g1 _ rfl
  · exact h6 t v ht
theorem FinD.done {AL : List Nat} {F' : List (Nat × Value)} (hu : uniq Γ = true) (hsub : Sub F' (X ++ knownE F0 Γ)) (h : ∀ w, G w0 w → W w → (∀ i j di dj fi fj gi gj, i ≠ j → Env.find Γ i = some (some di, fi) → Env.find Γ j = some (some dj, fj) → memB AL i = true → memB AL j = true → look X di = some (.pointer (some ⟨gi, 0, none⟩)) → look X dj = some (.pointer (some ⟨gj, 0, none⟩)) → gi ≠ gj) → Seq P ops Q tail n F' w) : FinD P ops Q n F0 G w0 AL tail X W Γ := by
  intro a w h1 h1' h2 h3 h4 h5 h6 h7
  refine h w h2 h3 (fun i j di dj fi fj gi gj e1 e2 e3 e4 e5 e6 e7 => h7 i j di dj fi fj gi gj e1 e2 e3 e4 e5 trivial trivial (h6 _ _ e6) (h6 _ _ e7)) a (Fr.sub ⟨h1, h1', fun t v ht => ?_⟩ hsub)
  rcases look_append ht with ht | ht
  · exact h6 t v ht
  · exact knownE_spec h5 (fun j d f hm => h4 j d f (find_mem hu hm) trivial) t v ht
/-- An operation whose guard's slot was itself skipped. -/
theorem Dr.skipU {j t : Nat} {b : Bool} (hu : uniq Γ = true) (hg : o.guard = some (j, b)) (ht : (ops[j]?).bind (·.dst) = some t) (hb : evX [] F0 Γ o (.tmp t) = some undef) (hr : DrW P ops Q n F0 G w0 L B (k + 1) r ((k, o.dst, .eq undef) :: Γ)) (hl : memB L k = false := by rfl) : DrW P ops Q n F0 G w0 L B k (o :: r) Γ :=
  ⟨.eq undef, trivial, (by
    intro a w h1 h2 h3 h4 h5 h6
    have hv := evX_spec hu h4 h5 h6 _ _ hb
    rw [if_neg (by
      unfold Region.wanted yielded
      simp only [hg, ht, Option.bind_some]
      cases hh : a.tmps[t]? with
      | none => simp
      | some u =>
        simp [Act.eval, hh] at hv
        subst hv
        simp [undef])]
    rfl : StepX P ops Q n F0 G w0 [] (fun _ => True) Γ o (.eq undef)), (fun h => by rw [hl] at h; cases h), hr⟩
end
/-- A new block's pointer, in a region that draws. -/
def NewPtr (B : Nat) (T : TypeId) (cs : Array Value) (v : Value) (w : World) : Prop := ∃ g, v = .pointer (some ⟨g, 0, none⟩) ∧ Blk w g T cs ∧ B ≤ g
theorem NewPtr.stable {B : Nat} {T : TypeId} {cs : Array Value} : ∀ v w w', Grow w w' → NewPtr B T cs v w → NewPtr B T cs v w' := fun _ _ _ hG ⟨g, e, h, hB⟩ => ⟨g, e, h.step hG, hB⟩
theorem Dr.alloc {P : Program} {ops : Array Oper} {Q : Exit → Act → World → Prop} {n : Nat} {F0 : List (Nat × Value)} {w0 : World} {Γ : Env} {o : Oper} {r : List Oper} {B : Env → Prop} {L : List Nat} {k T : Nat} {z : Value} (hu : uniq Γ = true) (ho : o.op = .alloc T) (hz : ∀ w, (zeroValue T).run P w = .ok z w) (hg : o.guard = none)
    (hr : DrW P ops Q n F0 Grow w0 L B (k + 1) r ((k, o.dst, .sat (NewPtr w0.heap.size T z.cells)) :: Γ)) (hl : memB L k = false := by rfl) : DrW P ops Q n F0 Grow w0 L B k (o :: r) Γ :=
  Dr.make hu NewPtr.stable hg (fun w hG => ⟨_, _, Runs.alloc_ ho hz, (new_of w z.cells T).below, w.heap.size, rfl, (new_of w z.cells T).blk, hG.size⟩) hr hl
theorem Dr.box {P : Program} {ops : Array Oper} {Q : Exit → Act → World → Prop} {n : Nat} {F0 : List (Nat × Value)} {w0 : World} {Γ : Env} {o : Oper} {r : List Oper} {B : Env → Prop} {L : List Nat} {k T : Nat} {x : Operand} {v : Value} (hu : uniq Γ = true) (ho : o.op = .box T x) (hx : evX [] F0 Γ o x = some v) (hg : o.guard = none)
    (hr : DrW P ops Q n F0 Grow w0 L B (k + 1) r ((k, o.dst, .sat (NewPtr w0.heap.size T v.cells)) :: Γ)) (hl : memB L k = false := by rfl) : DrW P ops Q n F0 Grow w0 L B k (o :: r) Γ :=
  Dr.make hu NewPtr.stable hg (fun w hG => ⟨_, _, Runs.box_ ho hx, (new_of w v.cells T).below, w.heap.size, rfl, (new_of w v.cells T).blk, hG.size⟩) hr hl
end Go.Proofs.YtefpejnmhlhnkaaGreatDoor
