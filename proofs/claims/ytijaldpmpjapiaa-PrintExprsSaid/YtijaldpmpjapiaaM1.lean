/-
  Texts that were joined: KE, KF, KG, KH, KI, KJ, KL, KM, Zero, TPrB, TAmt, TNumP, Fits, StrA. Conditions: what each theorem names.
-/
import Derived.Test.YtijaldpmpjapiaaM0
import Derived.Lib.Bytealg
import Derived.Laws.IdiomStrings
import Derived.Defers
import Derived.Test.YtijaldpmpjapiaaRows
import Derived.Lib.Builder
import Derived.Lib.UnsafeStr
set_option linter.unusedSectionVars false
namespace Go.RowKit
abbrev Grow (w w' : World) : Prop := Below w.heap.size w w'
theorem Grow.refl (w : World) : Grow w w := Below.refl _ _
theorem Grow.trans {a b c : World} (h : Grow a b) (k : Grow b c) : Grow a c := Below.trans h (k.mono h.size)
end Go.RowKit
namespace Go.Proofs.Ytijaldpmpjapiaa
open Go.RowKit
variable [Inhabited (List Deferred)]

section
variable {P : Program} {ops : Array Oper} {Q : Exit → Act → World → Prop} {n : Nat} {F0 X : List (Nat × Value)} {G : World → World → Prop} {w0 : World} {W : World → Prop} {Γ : Env} {o : Oper} {f : Fact} {v : Value} {tail r : List Oper} {B : Env → Prop} {k : Nat} {Φ : Value → World → Prop} {L : List Nat}

theorem lookE_spec {ds : List Nat} {a : Act} {w : World} (hs : ∀ t v, look F0 t = some v → a.tmps[t]? = some v) : ∀ {Γ : Env}, (∀ j d f, (j, d, f) ∈ Γ → j ∈ ds → ∃ u, (∀ t, d = some t → a.tmps[t]? = some u) ∧ f.holds u w) → ∀ {t v}, lookE F0 ds t Γ = some v → a.tmps[t]? = some v
  | [], _, t, v, h => hs t v h
  | (j, none, f) :: r, hF, t, v, h => lookE_spec hs (fun j d f hm => hF j d f (List.mem_cons_of_mem _ hm)) (Γ := r) h
  | (j, some d, .sat Φ) :: r, hF, t, v, h => by
    unfold lookE at h
    cases hb : Nat.beq d t with
    | true => rw [hb] at h; cases h
    | false => rw [hb] at h; exact lookE_spec hs (fun j d f hm => hF j d f (List.mem_cons_of_mem _ hm)) (Γ := r) h
  | (j, some d, .eq u) :: r, hF, t, v, h => by
    unfold lookE at h
    cases hb : Nat.beq d t with
    | true =>
      rw [hb] at h
      cases hm : memB ds j with
      | false => rw [hm] at h; cases h
      | true =>
        rw [hm] at h
        injection h with h
        subst h
        obtain ⟨u', h1, h2⟩ := hF j (some d) (.eq u) List.mem_cons_self (memB_spec hm)
        have := h1 d rfl
        rw [← Nat.eq_of_beq_eq_true hb, this, show u' = u from h2]
    | false => rw [hb] at h; exact lookE_spec hs (fun j d f hm => hF j d f (List.mem_cons_of_mem _ hm)) (Γ := r) h
/-- No number stands twice. -/
def uniq : Env → Bool
  | [] => true
  | (j, _, _) :: r => (Env.find r j).isNone && uniq r
theorem find_mem : ∀ {Γ : Env}, uniq Γ = true → ∀ {j d f}, (j, d, f) ∈ Γ → Env.find Γ j = some (d, f)
  | [], _, _, _, _, h => by cases h
  | (i, d', f') :: r, hu, j, d, f, h => by
    simp only [uniq, Bool.and_eq_true] at hu
    show (bif Nat.beq i j then some (d', f') else Env.find r j) = _
    rcases List.mem_cons.1 h with e | h
    · injection e with e1 e2
      injection e2 with e2 e3
      subst e1 e2 e3
      rw [Nat.beq_refl]; rfl
    · have hr := find_mem hu.2 h
      cases hb : Nat.beq i j with
      | true =>
        have e := Nat.eq_of_beq_eq_true hb
        subst e
        rw [hr] at hu
        simp at hu
      | false => exact hr
theorem evX_spec {a : Act} {w : World} (hu : uniq Γ = true) (hF : Facts Γ (· ∈ direct o) a w) (hs : ∀ t v, look F0 t = some v → a.tmps[t]? = some v) (hX : ∀ t v, look X t = some v → a.tmps[t]? = some v) : ∀ x u, evX X F0 Γ o x = some u → a.eval x = u := by
  intro x u hx
  cases x with
  | tmp t =>
    simp only [evX] at hx
    have : a.tmps[t]? = some u := by
      split at hx
      · rename_i v hv
        injection hx with hx
        subst hx
        exact hX t _ hv
      · exact lookE_spec hs (fun j d f hm hj => hF j d f (find_mem hu hm) hj) hx
    simp [Act.eval, this]
  | const v => exact Option.some.inj hx
  | global g => exact Option.some.inj hx
  | func f => exact Option.some.inj hx

variable (P Q n F0 G w0) in
def StepY (X : List (Nat × Value)) (W : World → Prop) (Γ : Env) (o : Oper) (f : Fact) : Prop := ∀ a w, a.tmps.size = n → G w0 w → W w → Facts Γ (· ∈ direct o) a w → (∀ t v, look F0 t = some v → a.tmps[t]? = some v) → (∀ t v, look X t = some v → a.tmps[t]? = some v) →
  o.wp P a w (fun a' w' => ∃ u, a' = a.put o.dst u ∧ G w w' ∧ f.holds u w') Q
theorem StepX.plain (hg : o.guard = none) (h : StepY P Q n F0 G w0 X W Γ o f) : StepX P ops Q n F0 G w0 X W Γ o f := by
  intro a w h1 h2 h3 h4 h5 h6
  rw [if_pos (by simp [Region.wanted, hg])]
  exact h a w h1 h2 h3 h4 h5 h6
theorem StepX.wanted {j t : Nat} {b : Bool} (hu : uniq Γ = true) (hg : o.guard = some (j, b)) (ht : (ops[j]?).bind (·.dst) = some t) (hb : evX X F0 Γ o (.tmp t) = some (.bool b)) (h : StepY P Q n F0 G w0 X W Γ o f) : StepX P ops Q n F0 G w0 X W Γ o f := by
  intro a w h1 h2 h3 h4 h5 h6
  have hv : a.tmps[t]? = some (.bool b) := by
    have := evX_spec hu h4 h5 h6 _ _ hb
    cases hh : a.tmps[t]? with
    | none => simp [Act.eval, hh, undef] at this
    | some u => simp [Act.eval, hh] at this; rw [this]
  rw [if_pos (by unfold Region.wanted yielded; simp only [hg, ht, Option.bind_some, hv]; simp)]
  exact h a w h1 h2 h3 h4 h5 h6
theorem StepX.skip {j t : Nat} {b b' : Bool} (hu : uniq Γ = true) (hg : o.guard = some (j, b)) (ht : (ops[j]?).bind (·.dst) = some t) (hb : evX X F0 Γ o (.tmp t) = some (.bool b')) (hne : b' = !b) : StepX P ops Q n F0 G w0 X W Γ o (.eq undef) := by
  intro a w h1 h2 h3 h4 h5 h6
  have hv : a.tmps[t]? = some (.bool b') := by
    have := evX_spec hu h4 h5 h6 _ _ hb
    cases hh : a.tmps[t]? with
    | none => simp [Act.eval, hh, undef] at this
    | some u => simp [Act.eval, hh] at this; rw [this]
  rw [if_neg (by unfold Region.wanted yielded; simp only [hg, ht, Option.bind_some, hv, hne]; cases b <;> simp)]
  rfl
theorem StepY.val (Gr : ∀ w, G w w) (hu : uniq Γ = true) (hrun : ∀ w, G w0 w → W w → Runs P (evX X F0 Γ o) o w v w) : StepY P Q n F0 G w0 X W Γ o (.eq v) := by
  intro a w h1 h2 h3 h4 h5 h6
  unfold Oper.wp
  rw [hrun w h2 h3 a.eval (evX_spec hu h4 h5 h6), Oper.upon_value]
  exact ⟨v, rfl, Gr w, rfl⟩
theorem StepY.make (hu : uniq Γ = true) (hrun : ∀ w, G w0 w → W w → ∃ v w', Runs P (evX X F0 Γ o) o w v w' ∧ G w w' ∧ Φ v w') : StepY P Q n F0 G w0 X W Γ o (.sat Φ) := by
  intro a w h1 h2 h3 h4 h5 h6
  obtain ⟨v, w', hr, hG, hΦ⟩ := hrun w h2 h3
  unfold Oper.wp
  rw [hr a.eval (evX_spec hu h4 h5 h6), Oper.upon_value]
  exact ⟨v, rfl, hG, hΦ⟩
theorem StepY.call {fn : FuncId} {args : Array Value} (hu : uniq Γ = true) (he : ∀ w, Enters P (evX X F0 Γ o) o w fn args) (hc : ∀ w, G w0 w → W w → Calls P fn args w fun e w' => ∃ v, e = .returned v ∧ G w w' ∧ Φ v w') : StepY P Q n F0 G w0 X W Γ o (.sat Φ) := by
  intro a w h1 h2 h3 h4 h5 h6
  unfold Oper.wp
  rw [he w a.eval (evX_spec hu h4 h5 h6), Oper.upon_enter]
  exact (hc w h2 h3).mono fun e w' ⟨v, e1, e2, e3⟩ => by subst e1; exact ⟨v, rfl, e2, e3⟩
theorem StepY.callV {fn : FuncId} {args : Array Value} (hu : uniq Γ = true) (he : ∀ w, Enters P (evX X F0 Γ o) o w fn args) (hc : ∀ w, G w0 w → W w → Calls P fn args w fun e w' => e = .returned v ∧ G w w') : StepY P Q n F0 G w0 X W Γ o (.eq v) := by
  intro a w h1 h2 h3 h4 h5 h6
  unfold Oper.wp
  rw [he w a.eval (evX_spec hu h4 h5 h6), Oper.upon_enter]
  exact (hc w h2 h3).mono fun e w' ⟨e1, e2⟩ => by subst e1; exact ⟨v, rfl, e2, rfl⟩
theorem StepX.open {j d : Nat} (hj : Env.find Γ j = some (some d, .sat Φ)) (hm : memB (direct o) j = true) (h : ∀ u, StepX P ops Q n F0 G w0 ((d, u) :: X) (fun w => W w ∧ Φ u w) Γ o f) : StepX P ops Q n F0 G w0 X W Γ o f := by
  intro a w h1 h2 h3 h4 h5 h6
  obtain ⟨u, g1, g2⟩ := h4 j _ _ hj (memB_spec hm)
  refine h u a w h1 h2 ⟨h3, g2⟩ h4 h5 fun t v ht => ?_
  rcases look_put ht with ⟨rfl, rfl⟩ | ⟨-, ht⟩
  · exact g1 _ rfl
  · exact h6 t v ht

theorem Dr.cons (hs : Fact.Stable G f) (hstep : StepX P ops Q n F0 G w0 [] (fun _ => True) Γ o f) (hr : DrW P ops Q n F0 G w0 L B (k + 1) r ((k, o.dst, f) :: Γ)) (hl : memB L k = false := by rfl) : DrW P ops Q n F0 G w0 L B k (o :: r) Γ := ⟨f, hs, hstep, (fun h => by rw [hl] at h; cases h), hr⟩
theorem Dr.val (Gr : ∀ w, G w w) (hu : uniq Γ = true) (hrun : ∀ w, G w0 w → Runs P (evX [] F0 Γ o) o w v w) (hg : o.guard = none) (hr : DrW P ops Q n F0 G w0 L B (k + 1) r ((k, o.dst, .eq v) :: Γ)) (hl : memB L k = false := by rfl) : DrW P ops Q n F0 G w0 L B k (o :: r) Γ :=
  ⟨.eq v, trivial, .plain hg (.val Gr hu fun w h _ => hrun w h), (fun h => by rw [hl] at h; cases h), hr⟩
theorem Dr.valG {j t : Nat} {b : Bool} (Gr : ∀ w, G w w) (hu : uniq Γ = true) (hrun : ∀ w, G w0 w → Runs P (evX [] F0 Γ o) o w v w) (hg : o.guard = some (j, b)) (ht : (ops[j]?).bind (·.dst) = some t) (hb : evX [] F0 Γ o (.tmp t) = some (.bool b)) (hr : DrW P ops Q n F0 G w0 L B (k + 1) r ((k, o.dst, .eq v) :: Γ)) (hl : memB L k = false := by rfl) : DrW P ops Q n F0 G w0 L B k (o :: r) Γ :=
  ⟨.eq v, trivial, .wanted hu hg ht hb (.val Gr hu fun w h _ => hrun w h), (fun h => by rw [hl] at h; cases h), hr⟩
theorem Dr.skip {j t : Nat} {b b' : Bool} (hu : uniq Γ = true) (hg : o.guard = some (j, b)) (ht : (ops[j]?).bind (·.dst) = some t) (hb : evX [] F0 Γ o (.tmp t) = some (.bool b')) (hne : b' = !b) (hr : DrW P ops Q n F0 G w0 L B (k + 1) r ((k, o.dst, .eq undef) :: Γ)) (hl : memB L k = false := by rfl) : DrW P ops Q n F0 G w0 L B k (o :: r) Γ :=
  ⟨.eq undef, trivial, .skip hu hg ht hb hne, (fun h => by rw [hl] at h; cases h), hr⟩
theorem Dr.call {fn : FuncId} {args : Array Value} (hu : uniq Γ = true) (he : ∀ w, Enters P (evX [] F0 Γ o) o w fn args) (hg : o.guard = none) (hs : ∀ v w w', G w w' → Φ v w → Φ v w') (hc : ∀ w, G w0 w → Calls P fn args w fun e w' => ∃ v, e = .returned v ∧ G w w' ∧ Φ v w')
    (hr : DrW P ops Q n F0 G w0 L B (k + 1) r ((k, o.dst, .sat Φ) :: Γ)) (hl : memB L k = false := by rfl) : DrW P ops Q n F0 G w0 L B k (o :: r) Γ :=
  ⟨.sat Φ, hs, .plain hg (.call hu he fun w h _ => hc w h), (fun h => by rw [hl] at h; cases h), hr⟩
theorem Dr.callV {fn : FuncId} {args : Array Value} (hu : uniq Γ = true) (he : ∀ w, Enters P (evX [] F0 Γ o) o w fn args) (hg : o.guard = none) (hc : ∀ w, G w0 w → Calls P fn args w fun e w' => e = .returned v ∧ G w w')
    (hr : DrW P ops Q n F0 G w0 L B (k + 1) r ((k, o.dst, .eq v) :: Γ)) (hl : memB L k = false := by rfl) : DrW P ops Q n F0 G w0 L B k (o :: r) Γ :=
  ⟨.eq v, trivial, .plain hg (.callV hu he fun w h _ => hc w h), (fun h => by rw [hl] at h; cases h), hr⟩
/-- Operations that may come up late. -/
theorem Dr.late (hl : memB L k = true) (hu : uniq Γ = true) (hrun : ∀ w, Runs P (evX [] F0 Γ o) o w v w) (Gr : ∀ w, G w w) (hg : o.guard = none) (hr : DrW P ops Q n F0 G w0 L B (k + 1) r ((k, o.dst, .eq v) :: Γ)) : DrW P ops Q n F0 G w0 L B k (o :: r) Γ :=
  ⟨.eq v, trivial, .plain hg (.val Gr hu fun w _ _ => hrun w), (fun _ => ⟨v, rfl, fun a w _ _ _ h4 h5 h6 => .inl ⟨by simp [Region.wanted, hg], fun w' => hrun w' a.eval (evX_spec hu h4 h5 h6)⟩⟩), hr⟩
theorem Dr.late1 {j d : Nat} {Ψ : Value → World → Prop} (hl : memB L k = true) (hj : Env.find Γ j = some (some d, .sat Ψ)) (hm : memB (direct o) j = true) (hu : uniq Γ = true) (hrun : ∀ u w w', G w0 w → Ψ u w → Runs P (evX [(d, u)] F0 Γ o) o w' v w') (Gr : ∀ w, G w w) (hg : o.guard = none)
    (hr : DrW P ops Q n F0 G w0 L B (k + 1) r ((k, o.dst, .eq v) :: Γ)) : DrW P ops Q n F0 G w0 L B k (o :: r) Γ :=
  ⟨.eq v, trivial, .open hj hm fun u => .plain hg (.val Gr hu fun w h h2 => hrun u w w h h2.2), (fun _ => ⟨v, rfl, fun a w _ h2 _ h4 h5 _ => .inl ⟨by simp [Region.wanted, hg], fun w' => by
    obtain ⟨u, g1, g2⟩ := h4 j _ _ hj (memB_spec hm)
    refine hrun u w w' h2 g2 a.eval (evX_spec hu h4 h5 fun t v ht => ?_)
    rcases look_put ht with ⟨rfl, rfl⟩ | ⟨-, ht⟩
    · exact g1 _ rfl
    · cases ht⟩⟩), hr⟩
theorem Dr.make (hu : uniq Γ = true) (hs : ∀ v w w', G w w' → Φ v w → Φ v w') (hg : o.guard = none) (hrun : ∀ w, G w0 w → ∃ v w', Runs P (evX [] F0 Γ o) o w v w' ∧ G w w' ∧ Φ v w') (hr : DrW P ops Q n F0 G w0 L B (k + 1) r ((k, o.dst, .sat Φ) :: Γ)) (hl : memB L k = false := by rfl) : DrW P ops Q n F0 G w0 L B k (o :: r) Γ :=
  ⟨.sat Φ, hs, .plain hg (.make hu fun w h _ => hrun w h), (fun h => by rw [hl] at h; cases h), hr⟩
/-- With one predecessor's result opened. -/
theorem Dr.call1 {fn : FuncId} {args : Value → Array Value} {j d : Nat} {Ψ : Value → World → Prop} (hj : Env.find Γ j = some (some d, .sat Ψ)) (hm : memB (direct o) j = true) (hu : uniq Γ = true) (he : ∀ u w, Enters P (evX [(d, u)] F0 Γ o) o w fn (args u)) (hg : o.guard = none) (hs : ∀ v w w', G w w' → Φ v w → Φ v w')
    (hc : ∀ u w, G w0 w → Ψ u w → Calls P fn (args u) w fun e w' => ∃ v, e = .returned v ∧ G w w' ∧ Φ v w')
    (hr : DrW P ops Q n F0 G w0 L B (k + 1) r ((k, o.dst, .sat Φ) :: Γ)) (hl : memB L k = false := by rfl) : DrW P ops Q n F0 G w0 L B k (o :: r) Γ :=
  ⟨.sat Φ, hs, .open hj hm fun u => .plain hg (.call hu (he u) fun w h h2 => hc u w h h2.2), (fun h => by rw [hl] at h; cases h), hr⟩
theorem Dr.call1V {fn : FuncId} {args : Value → Array Value} {j d : Nat} {Ψ : Value → World → Prop} (hj : Env.find Γ j = some (some d, .sat Ψ)) (hm : memB (direct o) j = true) (hu : uniq Γ = true) (he : ∀ u w, Enters P (evX [(d, u)] F0 Γ o) o w fn (args u)) (hg : o.guard = none)
    (hc : ∀ u w, G w0 w → Ψ u w → Calls P fn (args u) w fun e w' => e = .returned v ∧ G w w')
    (hr : DrW P ops Q n F0 G w0 L B (k + 1) r ((k, o.dst, .eq v) :: Γ)) (hl : memB L k = false := by rfl) : DrW P ops Q n F0 G w0 L B k (o :: r) Γ :=
  ⟨.eq v, trivial, .open hj hm fun u => .plain hg (.callV hu (he u) fun w h h2 => hc u w h h2.2), (fun h => by rw [hl] at h; cases h), hr⟩
theorem Dr.call2 {fn : FuncId} {args : Value → Value → Array Value} {j d j' d' : Nat} {Ψ Ψ' : Value → World → Prop} (hj : Env.find Γ j = some (some d, .sat Ψ)) (hm : memB (direct o) j = true) (hj' : Env.find Γ j' = some (some d', .sat Ψ')) (hm' : memB (direct o) j' = true) (hu : uniq Γ = true)
    (he : ∀ u u' w, Enters P (evX [(d', u'), (d, u)] F0 Γ o) o w fn (args u u')) (hg : o.guard = none) (hs : ∀ v w w', G w w' → Φ v w → Φ v w')
    (hc : ∀ u u' w, G w0 w → Ψ u w → Ψ' u' w → Calls P fn (args u u') w fun e w' => ∃ v, e = .returned v ∧ G w w' ∧ Φ v w')
    (hr : DrW P ops Q n F0 G w0 L B (k + 1) r ((k, o.dst, .sat Φ) :: Γ)) (hl : memB L k = false := by rfl) : DrW P ops Q n F0 G w0 L B k (o :: r) Γ :=
  ⟨.sat Φ, hs, .open hj hm fun u => .open hj' hm' fun u' => .plain hg (.call hu (he u u') fun w h h2 => hc u u' w h h2.1.2 h2.2), (fun h => by rw [hl] at h; cases h), hr⟩
theorem Dr.call2V {fn : FuncId} {args : Value → Value → Array Value} {j d j' d' : Nat} {Ψ Ψ' : Value → World → Prop} (hj : Env.find Γ j = some (some d, .sat Ψ)) (hm : memB (direct o) j = true) (hj' : Env.find Γ j' = some (some d', .sat Ψ')) (hm' : memB (direct o) j' = true) (hu : uniq Γ = true)
    (he : ∀ u u' w, Enters P (evX [(d', u'), (d, u)] F0 Γ o) o w fn (args u u')) (hg : o.guard = none)
    (hc : ∀ u u' w, G w0 w → Ψ u w → Ψ' u' w → Calls P fn (args u u') w fun e w' => e = .returned v ∧ G w w')
    (hr : DrW P ops Q n F0 G w0 L B (k + 1) r ((k, o.dst, .eq v) :: Γ)) (hl : memB L k = false := by rfl) : DrW P ops Q n F0 G w0 L B k (o :: r) Γ :=
  ⟨.eq v, trivial, .open hj hm fun u => .open hj' hm' fun u' => .plain hg (.callV hu (he u u') fun w h h2 => hc u u' w h h2.1.2 h2.2), (fun h => by rw [hl] at h; cases h), hr⟩
/-- A value that is read off a predecessor's result. -/
theorem Dr.val1 {j d : Nat} {Ψ : Value → World → Prop} (Gr : ∀ w, G w w) (hj : Env.find Γ j = some (some d, .sat Ψ)) (hm : memB (direct o) j = true) (hu : uniq Γ = true) (hs : ∀ v w w', G w w' → Φ v w → Φ v w') (hg : o.guard = none)
    (hrun : ∀ u w, G w0 w → Ψ u w → ∃ v, Runs P (evX [(d, u)] F0 Γ o) o w v w ∧ Φ v w) (hr : DrW P ops Q n F0 G w0 L B (k + 1) r ((k, o.dst, .sat Φ) :: Γ)) (hl : memB L k = false := by rfl) : DrW P ops Q n F0 G w0 L B k (o :: r) Γ :=
  ⟨.sat Φ, hs, .open hj hm fun u => .plain hg (.make hu fun w h h2 => by obtain ⟨v, h3, h4⟩ := hrun u w h h2.2; exact ⟨v, w, h3, Gr w, h4⟩), (fun h => by rw [hl] at h; cases h), hr⟩
theorem Dr.val1V {j d : Nat} {Ψ : Value → World → Prop} (Gr : ∀ w, G w w) (hj : Env.find Γ j = some (some d, .sat Ψ)) (hm : memB (direct o) j = true) (hu : uniq Γ = true) (hg : o.guard = none)
    (hrun : ∀ u w, G w0 w → Ψ u w → Runs P (evX [(d, u)] F0 Γ o) o w v w) (hr : DrW P ops Q n F0 G w0 L B (k + 1) r ((k, o.dst, .eq v) :: Γ)) (hl : memB L k = false := by rfl) : DrW P ops Q n F0 G w0 L B k (o :: r) Γ :=
  ⟨.eq v, trivial, .open hj hm fun u => .plain hg (.val Gr hu fun w h h2 => hrun u w h h2.2), (fun h => by rw [hl] at h; cases h), hr⟩

theorem Dr.callG {fn : FuncId} {args : Array Value} (hu : uniq Γ = true) (he : ∀ w, Enters P (evX [] F0 Γ o) o w fn args) {jg tg : Nat} {bg : Bool} (hg : o.guard = some (jg, bg)) (ht : (ops[jg]?).bind (·.dst) = some tg) (hb : evX [] F0 Γ o (.tmp tg) = some (.bool bg)) (hs : ∀ v w w', G w w' → Φ v w → Φ v w') (hc : ∀ w, G w0 w → Calls P fn args w fun e w' => ∃ v, e = .returned v ∧ G w w' ∧ Φ v w')
    (hr : DrW P ops Q n F0 G w0 L B (k + 1) r ((k, o.dst, .sat Φ) :: Γ)) (hl : memB L k = false := by rfl) : DrW P ops Q n F0 G w0 L B k (o :: r) Γ :=
  ⟨.sat Φ, hs, .wanted hu hg ht hb (.call hu he fun w h _ => hc w h), (fun h => by rw [hl] at h; cases h), hr⟩
theorem Dr.callVG {fn : FuncId} {args : Array Value} (hu : uniq Γ = true) (he : ∀ w, Enters P (evX [] F0 Γ o) o w fn args) {jg tg : Nat} {bg : Bool} (hg : o.guard = some (jg, bg)) (ht : (ops[jg]?).bind (·.dst) = some tg) (hb : evX [] F0 Γ o (.tmp tg) = some (.bool bg)) (hc : ∀ w, G w0 w → Calls P fn args w fun e w' => e = .returned v ∧ G w w')
    (hr : DrW P ops Q n F0 G w0 L B (k + 1) r ((k, o.dst, .eq v) :: Γ)) (hl : memB L k = false := by rfl) : DrW P ops Q n F0 G w0 L B k (o :: r) Γ :=
  ⟨.eq v, trivial, .wanted hu hg ht hb (.callV hu he fun w h _ => hc w h), (fun h => by rw [hl] at h; cases h), hr⟩
theorem Dr.makeG (hu : uniq Γ = true) (hs : ∀ v w w', G w w' → Φ v w → Φ v w') {jg tg : Nat} {bg : Bool} (hg : o.guard = some (jg, bg)) (ht : (ops[jg]?).bind (·.dst) = some tg) (hb : evX [] F0 Γ o (.tmp tg) = some (.bool bg)) (hrun : ∀ w, G w0 w → ∃ v w', Runs P (evX [] F0 Γ o) o w v w' ∧ G w w' ∧ Φ v w') (hr : DrW P ops Q n F0 G w0 L B (k + 1) r ((k, o.dst, .sat Φ) :: Γ)) (hl : memB L k = false := by rfl) : DrW P ops Q n F0 G w0 L B k (o :: r) Γ :=
  ⟨.sat Φ, hs, .wanted hu hg ht hb (.make hu fun w h _ => hrun w h), (fun h => by rw [hl] at h; cases h), hr⟩
theorem Dr.call1G {fn : FuncId} {args : Value → Array Value} {j d : Nat} {Ψ : Value → World → Prop} (hj : Env.find Γ j = some (some d, .sat Ψ)) (hm : memB (direct o) j = true) (hu : uniq Γ = true) (he : ∀ u w, Enters P (evX [(d, u)] F0 Γ o) o w fn (args u)) {jg tg : Nat} {bg : Bool} (hg : o.guard = some (jg, bg)) (ht : (ops[jg]?).bind (·.dst) = some tg) (hb : ∀ u, evX [(d, u)] F0 Γ o (.tmp tg) = some (.bool bg)) (hs : ∀ v w w', G w w' → Φ v w → Φ v w')
    (hc : ∀ u w, G w0 w → Ψ u w → Calls P fn (args u) w fun e w' => ∃ v, e = .returned v ∧ G w w' ∧ Φ v w')
    (hr : DrW P ops Q n F0 G w0 L B (k + 1) r ((k, o.dst, .sat Φ) :: Γ)) (hl : memB L k = false := by rfl) : DrW P ops Q n F0 G w0 L B k (o :: r) Γ :=
  ⟨.sat Φ, hs, .open hj hm fun u => .wanted hu hg ht (hb u) (.call hu (he u) fun w h h2 => hc u w h h2.2), (fun h => by rw [hl] at h; cases h), hr⟩
theorem Dr.call1VG {fn : FuncId} {args : Value → Array Value} {j d : Nat} {Ψ : Value → World → Prop} (hj : Env.find Γ j = some (some d, .sat Ψ)) (hm : memB (direct o) j = true) (hu : uniq Γ = true) (he : ∀ u w, Enters P (evX [(d, u)] F0 Γ o) o w fn (args u)) {jg tg : Nat} {bg : Bool} (hg : o.guard = some (jg, bg)) (ht : (ops[jg]?).bind (·.dst) = some tg) (hb : ∀ u, evX [(d, u)] F0 Γ o (.tmp tg) = some (.bool bg))
    (hc : ∀ u w, G w0 w → Ψ u w → Calls P fn (args u) w fun e w' => e = .returned v ∧ G w w')
    (hr : DrW P ops Q n F0 G w0 L B (k + 1) r ((k, o.dst, .eq v) :: Γ)) (hl : memB L k = false := by rfl) : DrW P ops Q n F0 G w0 L B k (o :: r) Γ :=
  ⟨.eq v, trivial, .open hj hm fun u => .wanted hu hg ht (hb u) (.callV hu (he u) fun w h h2 => hc u w h h2.2), (fun h => by rw [hl] at h; cases h), hr⟩
theorem Dr.call2G {fn : FuncId} {args : Value → Value → Array Value} {j d j' d' : Nat} {Ψ Ψ' : Value → World → Prop} (hj : Env.find Γ j = some (some d, .sat Ψ)) (hm : memB (direct o) j = true) (hj' : Env.find Γ j' = some (some d', .sat Ψ')) (hm' : memB (direct o) j' = true) (hu : uniq Γ = true)
    (he : ∀ u u' w, Enters P (evX [(d', u'), (d, u)] F0 Γ o) o w fn (args u u')) {jg tg : Nat} {bg : Bool} (hg : o.guard = some (jg, bg)) (ht : (ops[jg]?).bind (·.dst) = some tg) (hb : ∀ u u', evX [(d', u'), (d, u)] F0 Γ o (.tmp tg) = some (.bool bg)) (hs : ∀ v w w', G w w' → Φ v w → Φ v w')
    (hc : ∀ u u' w, G w0 w → Ψ u w → Ψ' u' w → Calls P fn (args u u') w fun e w' => ∃ v, e = .returned v ∧ G w w' ∧ Φ v w')
    (hr : DrW P ops Q n F0 G w0 L B (k + 1) r ((k, o.dst, .sat Φ) :: Γ)) (hl : memB L k = false := by rfl) : DrW P ops Q n F0 G w0 L B k (o :: r) Γ :=
  ⟨.sat Φ, hs, .open hj hm fun u => .open hj' hm' fun u' => .wanted hu hg ht (hb u u') (.call hu (he u u') fun w h h2 => hc u u' w h h2.1.2 h2.2), (fun h => by rw [hl] at h; cases h), hr⟩
theorem Dr.call2VG {fn : FuncId} {args : Value → Value → Array Value} {j d j' d' : Nat} {Ψ Ψ' : Value → World → Prop} (hj : Env.find Γ j = some (some d, .sat Ψ)) (hm : memB (direct o) j = true) (hj' : Env.find Γ j' = some (some d', .sat Ψ')) (hm' : memB (direct o) j' = true) (hu : uniq Γ = true)
    (he : ∀ u u' w, Enters P (evX [(d', u'), (d, u)] F0 Γ o) o w fn (args u u')) {jg tg : Nat} {bg : Bool} (hg : o.guard = some (jg, bg)) (ht : (ops[jg]?).bind (·.dst) = some tg) (hb : ∀ u u', evX [(d', u'), (d, u)] F0 Γ o (.tmp tg) = some (.bool bg))
    (hc : ∀ u u' w, G w0 w → Ψ u w → Ψ' u' w → Calls P fn (args u u') w fun e w' => e = .returned v ∧ G w w')
    (hr : DrW P ops Q n F0 G w0 L B (k + 1) r ((k, o.dst, .eq v) :: Γ)) (hl : memB L k = false := by rfl) : DrW P ops Q n F0 G w0 L B k (o :: r) Γ :=
  ⟨.eq v, trivial, .open hj hm fun u => .open hj' hm' fun u' => .wanted hu hg ht (hb u u') (.callV hu (he u u') fun w h h2 => hc u u' w h h2.1.2 h2.2), (fun h => by rw [hl] at h; cases h), hr⟩
theorem Dr.val1G {j d : Nat} {Ψ : Value → World → Prop} (Gr : ∀ w, G w w) (hj : Env.find Γ j = some (some d, .sat Ψ)) (hm : memB (direct o) j = true) (hu : uniq Γ = true) (hs : ∀ v w w', G w w' → Φ v w → Φ v w') {jg tg : Nat} {bg : Bool} (hg : o.guard = some (jg, bg)) (ht : (ops[jg]?).bind (·.dst) = some tg) (hb : ∀ u, evX [(d, u)] F0 Γ o (.tmp tg) = some (.bool bg))
    (hrun : ∀ u w, G w0 w → Ψ u w → ∃ v, Runs P (evX [(d, u)] F0 Γ o) o w v w ∧ Φ v w) (hr : DrW P ops Q n F0 G w0 L B (k + 1) r ((k, o.dst, .sat Φ) :: Γ)) (hl : memB L k = false := by rfl) : DrW P ops Q n F0 G w0 L B k (o :: r) Γ :=
  ⟨.sat Φ, hs, .open hj hm fun u => .wanted hu hg ht (hb u) (.make hu fun w h h2 => by obtain ⟨v, h3, h4⟩ := hrun u w h h2.2; exact ⟨v, w, h3, Gr w, h4⟩), (fun h => by rw [hl] at h; cases h), hr⟩
theorem Dr.val1VG {j d : Nat} {Ψ : Value → World → Prop} (Gr : ∀ w, G w w) (hj : Env.find Γ j = some (some d, .sat Ψ)) (hm : memB (direct o) j = true) (hu : uniq Γ = true) {jg tg : Nat} {bg : Bool} (hg : o.guard = some (jg, bg)) (ht : (ops[jg]?).bind (·.dst) = some tg) (hb : ∀ u, evX [(d, u)] F0 Γ o (.tmp tg) = some (.bool bg))
    (hrun : ∀ u w, G w0 w → Ψ u w → Runs P (evX [(d, u)] F0 Γ o) o w v w) (hr : DrW P ops Q n F0 G w0 L B (k + 1) r ((k, o.dst, .eq v) :: Γ)) (hl : memB L k = false := by rfl) : DrW P ops Q n F0 G w0 L B k (o :: r) Γ :=
  ⟨.eq v, trivial, .open hj hm fun u => .wanted hu hg ht (hb u) (.val Gr hu fun w h h2 => hrun u w h h2.2), (fun h => by rw [hl] at h; cases h), hr⟩

/-! The end of the first part. -/
def knownE (F0 : List (Nat × Value)) : Env → List (Nat × Value)
  | [] => F0
  | (_, some d, .eq v) :: r => (d, v) :: knownE F0 r
  | _ :: r => knownE F0 r
theorem knownE_spec {a : Act} {w : World} (hs : ∀ t v, look F0 t = some v → a.tmps[t]? = some v) : ∀ {Γ : Env}, (∀ j d f, (j, d, f) ∈ Γ → ∃ u, (∀ t, d = some t → a.tmps[t]? = some u) ∧ f.holds u w) → ∀ t v, look (knownE F0 Γ) t = some v → a.tmps[t]? = some v
  | [], _, t, v, h => hs t v h
  | (j, none, f) :: r, hF, t, v, h => knownE_spec hs (fun j d f hm => hF j d f (List.mem_cons_of_mem _ hm)) (Γ := r) t v h
  | (j, some d, .sat Φ) :: r, hF, t, v, h => knownE_spec hs (fun j d f hm => hF j d f (List.mem_cons_of_mem _ hm)) (Γ := r) t v h
  | (j, some d, .eq u) :: r, hF, t, v, h => by
    rcases look_put h with ⟨rfl, rfl⟩ | ⟨-, h⟩
    · obtain ⟨u', h1, h2⟩ := hF j (some d) (.eq u) List.mem_cons_self
      rw [h1 d rfl, show u' = u from h2]
    · exact knownE_spec hs (fun j d f hm => hF j d f (List.mem_cons_of_mem _ hm)) (Γ := r) t v h
theorem look_append {A B : List (Nat × Value)} {t : Nat} {v : Value} (h : look (A ++ B) t = some v) : look A t = some v ∨ look B t = some v := by
  induction A with
  | nil => exact .inr h
  | cons p r ih =>
    obtain ⟨k, u⟩ := p
    rcases look_put h with ⟨rfl, rfl⟩ | ⟨hne, h⟩
    · refine .inl ?_
      unfold look
      rw [Nat.beq_refl]; rfl
    · rcases ih h with h | h
      · refine .inl ?_
        show (bif Nat.beq k t then some u else look r t) = _
        cases hb : Nat.beq k t with
        | true => exact absurd (Nat.eq_of_beq_eq_true hb) hne
        | false => exact h
      · exact .inr h
theorem Dr.nil (h : B Γ) : DrW P ops Q n F0 G w0 L B k [] Γ := h
theorem FinX.open {j d : Nat} (hj : Env.find Γ j = some (some d, .sat Φ)) (h : ∀ u, FinX P ops Q n F0 G w0 tail ((d, u) :: X) (fun w => W w ∧ Φ u w) Γ) : FinX P ops Q n F0 G w0 tail X W Γ := by
  intro a w h1 h1' h2 h3 h4 h5 h6
  obtain ⟨u, g1, g2⟩ := h4 j _ _ hj trivial
  refine h u a w h1 h1' h2 ⟨h3, g2⟩ h4 h5 fun t v ht => ?_
  rcases look_put ht with ⟨rfl, rfl⟩ | ⟨-, ht⟩
  · exact g1 _ rfl
  · exact h6 t v ht
theorem FinX.done {F' : List (Nat × Value)} (hu : uniq Γ = true) (hsub : Sub F' (X ++ knownE F0 Γ)) (h : ∀ w, G w0 w → W w → Seq P ops Q tail n F' w) : FinX P ops Q n F0 G w0 tail X W Γ := by
  intro a w h1 h1' h2 h3 h4 h5 h6
  refine h w h2 h3 a (Fr.sub ⟨h1, h1', fun t v ht => ?_⟩ hsub)
  rcases look_append ht with ht | ht
  · exact h6 t v ht
  · exact knownE_spec h5 (fun j d f hm => h4 j d f (find_mem hu hm) trivial) t v ht
/-- A region that draws: its first m operations come up in whatever order, the others in theirs. -/
theorem Cd.draw (m : Nat) {id : Nat} {l : List Oper} {w : World} (hm : P.follows .mixedOrders = true) (L : List Nat) (hQ : L = [] ∨ ∀ c (a : Act) d v w, Q (.panic c) (a.put d v) w → Q (.panic c) a w) (hchk : chkAll n (keysOf F0) L (l.take m) (l.drop m) = true) (G : World → World → Prop) (Gr : ∀ w, G w w) (Gt : ∀ a b c, G a b → G b c → G a c)
    (h : ∀ w0, Below w.heap.size w w0 → w0.heap.size = w.heap.size → DrW P l.toArray Q n F0 G w0 L (FinX P l.toArray Q n F0 G w0 (l.drop m) [] (fun _ => True)) 0 (l.take m) []) : Cd P (.region id l.toArray true) Q n F0 w := fun _ ha =>
  wp_draw L [] (fun i o h _ => by cases h) (fun i h => by cases h) (.inl rfl) hQ hm (by rw [List.take_append_drop]) hchk Gt Gr rfl (DrW.mono (fun Γ hΓ a w h1 h2 h3 h4 h5 h6 h7 _ => hΓ a w h1 h2 h3 h4 h5 h6 h7) _ _ _ (h { w with drawn := w.drawn + 1 } ⟨rfl, rfl, rfl, Nat.le_refl _, fun _ _ => rfl⟩ rfl)) ha
/-- The same, new blocks being told apart. -/
theorem Cd.drawD (m : Nat) (AL : List Nat) {id : Nat} {l : List Oper} {w : World} (hm : P.follows .mixedOrders = true) (L : List Nat) (hAL : ∀ i o, memB AL i = true → (l.take m)[i]? = some o → Makes P o) (hALL : ∀ i, memB AL i = true → memB L i = false) (hQ : L = [] ∨ ∀ c (a : Act) d v w, Q (.panic c) (a.put d v) w → Q (.panic c) a w) (hchk : chkAll n (keysOf F0) L (l.take m) (l.drop m) = true)
    (h : ∀ w0, Below w.heap.size w w0 → w0.heap.size = w.heap.size → DrW P l.toArray Q n F0 Grow w0 L (FinD P l.toArray Q n F0 Grow w0 AL (l.drop m) [] (fun _ => True)) 0 (l.take m) []) : Cd P (.region id l.toArray true) Q n F0 w := fun _ ha =>
  wp_draw (G := Grow) L AL hAL hALL (.inr fun _ _ hG => hG.size) hQ hm (by rw [List.take_append_drop]) hchk (fun _ _ _ => Grow.trans) Grow.refl rfl (h { w with drawn := w.drawn + 1 } ⟨rfl, rfl, rfl, Nat.le_refl _, fun _ _ => rfl⟩ rfl) ha
theorem FinD.open {AL : List Nat} {j d : Nat} (hj : Env.find Γ j = some (some d, .sat Φ)) (h : ∀ u, FinD P ops Q n F0 G w0 AL tail ((d, u) :: X) (fun w => W w ∧ Φ u w) Γ) : FinD P ops Q n F0 G w0 AL tail X W Γ := by
  intro a w h1 h1' h2 h3 h4 h5 h6 h7
  obtain ⟨u, g1, g2⟩ := h4 j _ _ hj trivial
  refine h u a w h1 h1' h2 ⟨h3, g2⟩ h4 h5 (fun t v ht => ?_) h7
  rcases look_put ht with ⟨rfl, rfl⟩ | ⟨-, ht⟩
  · exact g1 _ rfl
  · exact h6 t v ht
theorem FinD.done {AL : List Nat} {F' : List (Nat × Value)} (hu : uniq Γ = true) (hsub : Sub F' (X ++ knownE F0 Γ)) (h : ∀ w, G w0 w → W w → (∀ i j di dj fi fj gi gj, i ≠ j → Env.find Γ i = some (some di, fi) → Env.find Γ j = some (some dj, fj) → memB AL i = true → memB AL j = true → look X di = some (.pointer (some ⟨gi, 0, none⟩)) → look X dj = some (.pointer (some ⟨gj, 0, none⟩)) → gi ≠ gj) → Seq P ops Q tail n F' w) : FinD P ops Q n F0 G w0 AL tail X W Γ := by
  intro a w h1 h1' h2 h3 h4 h5 h6 h7
  refine h w h2 h3 (fun i j di dj fi fj gi gj e1 e2 e3 e4 e5 e6 e7 => h7 i j di dj fi fj gi gj e1 e2 e3 e4 e5 trivial trivial (h6 _ _ e6) (h6 _ _ e7)) a (Fr.sub ⟨h1, h1', fun t v ht => ?_⟩ hsub)
  rcases look_append ht with ht | ht
  · exact h6 t v ht
  · exact knownE_spec h5 (fun j d f hm => h4 j d f (find_mem hu hm) trivial) t v ht
/-- An operation whose guard's slot was itself skipped. -/
theorem Dr.skipU {j t : Nat} {b : Bool} (hu : uniq Γ = true) (hg : o.guard = some (j, b)) (ht : (ops[j]?).bind (·.dst) = some t) (hb : evX [] F0 Γ o (.tmp t) = some undef) (hr : DrW P ops Q n F0 G w0 L B (k + 1) r ((k, o.dst, .eq undef) :: Γ)) (hl : memB L k = false := by rfl) : DrW P ops Q n F0 G w0 L B k (o :: r) Γ :=
  ⟨.eq undef, trivial, (by
    intro a w h1 h2 h3 h4 h5 h6
    have hv := evX_spec hu h4 h5 h6 _ _ hb
    rw [if_neg (by
      unfold Region.wanted yielded
      simp only [hg, ht, Option.bind_some]
      cases hh : a.tmps[t]? with
      | none => simp
      | some u =>
        simp [Act.eval, hh] at hv
        subst hv
        simp [undef])]
    rfl : StepX P ops Q n F0 G w0 [] (fun _ => True) Γ o (.eq undef)), (fun h => by rw [hl] at h; cases h), hr⟩
end
/-- A new block's pointer, in a region that draws. -/
def NewPtr (B : Nat) (T : TypeId) (cs : Array Value) (v : Value) (w : World) : Prop := ∃ g, v = .pointer (some ⟨g, 0, none⟩) ∧ Blk w g T cs ∧ B ≤ g
theorem NewPtr.stable {B : Nat} {T : TypeId} {cs : Array Value} : ∀ v w w', Grow w w' → NewPtr B T cs v w → NewPtr B T cs v w' := fun _ _ _ hG ⟨g, e, h, hB⟩ => ⟨g, e, h.step hG, hB⟩
theorem Dr.alloc {P : Program} {ops : Array Oper} {Q : Exit → Act → World → Prop} {n : Nat} {F0 : List (Nat × Value)} {w0 : World} {Γ : Env} {o : Oper} {r : List Oper} {B : Env → Prop} {L : List Nat} {k T : Nat} {z : Value} (hu : uniq Γ = true) (ho : o.op = .alloc T) (hz : ∀ w, (zeroValue T).run P w = .ok z w) (hg : o.guard = none)
    (hr : DrW P ops Q n F0 Grow w0 L B (k + 1) r ((k, o.dst, .sat (NewPtr w0.heap.size T z.cells)) :: Γ)) (hl : memB L k = false := by rfl) : DrW P ops Q n F0 Grow w0 L B k (o :: r) Γ :=
  Dr.make hu NewPtr.stable hg (fun w hG => ⟨_, _, Runs.alloc_ ho hz, (new_of w z.cells T).below, w.heap.size, rfl, (new_of w z.cells T).blk, hG.size⟩) hr hl
theorem Dr.box {P : Program} {ops : Array Oper} {Q : Exit → Act → World → Prop} {n : Nat} {F0 : List (Nat × Value)} {w0 : World} {Γ : Env} {o : Oper} {r : List Oper} {B : Env → Prop} {L : List Nat} {k T : Nat} {x : Operand} {v : Value} (hu : uniq Γ = true) (ho : o.op = .box T x) (hx : evX [] F0 Γ o x = some v) (hg : o.guard = none)
    (hr : DrW P ops Q n F0 Grow w0 L B (k + 1) r ((k, o.dst, .sat (NewPtr w0.heap.size T v.cells)) :: Γ)) (hl : memB L k = false := by rfl) : DrW P ops Q n F0 Grow w0 L B k (o :: r) Γ :=
  Dr.make hu NewPtr.stable hg (fun w hG => ⟨_, _, Runs.box_ ho hx, (new_of w v.cells T).below, w.heap.size, rfl, (new_of w v.cells T).blk, hG.size⟩) hr hl
end Go.Proofs.Ytijaldpmpjapiaa
namespace Go.Proofs.Ytijaldpmpjapiaa
open Go.RowKit
variable [Inhabited (List Deferred)]

/-- Contexts, the innermost first: where c holds, the slots hold these values; where it does not, they hold nothing. -/
abbrev Cxs := List (Bool × List (Nat × Value))
def allX : Cxs → List (Nat × Value) → List (Nat × Value)
  | [], F => F
  | (_, H) :: r, F => H ++ allX r F
/-- The innermost one's condition. -/
def topX : Cxs → Bool
  | [] => true
  | (c, _) :: _ => c
/-- What the contexts say of a frame; an inner one's condition implies the outer one's. -/
def HoldX : Cxs → List (Nat × Value) → Act → Prop
  | [], _, _ => True
  | (c, H) :: r, F, a => (c = true → topX r = true) ∧ (c = true → ∀ t v, look H t = some v → a.tmps[t]? = some v) ∧ (c = false → ∀ t v, look H t = some v → a.tmps[t]? = some undef) ∧ HoldX r F a
def SeqC (P : Program) (ops : Array Oper) (Q : Exit → Act → World → Prop) (rest : List Oper) (n : Nat) (C : Cxs) (F : List (Nat × Value)) (w : World) : Prop := ∀ a, Fr n F a → HoldX C F a → wpList P ops Q rest a w

theorem HoldX.all {n : Nat} {F : List (Nat × Value)} {a : Act} (ha : Fr n F a) : ∀ {C : Cxs}, HoldX C F a → topX C = true → ∀ t v, look (allX C F) t = some v → a.tmps[t]? = some v
  | [], _, _, t, v, h => ha.slot t v h
  | (c, H) :: r, hC, hc, t, v, h => by
    obtain ⟨h1, h2, -, h4⟩ := hC
    rcases look_append h with h | h
    · exact h2 hc t v h
    · exact HoldX.all ha h4 (h1 hc) t v h
theorem HoldX.fr {n : Nat} {F : List (Nat × Value)} {a : Act} {C : Cxs} (ha : Fr n F a) (hC : HoldX C F a) (hc : topX C = true) : Fr n (allX C F) a := ⟨ha.size, ha.defers, hC.all ha hc⟩
/-- d is none of the known slots. -/
def freeX (d : Nat) : Cxs → List (Nat × Value) → Bool
  | [], F => (look F d).isNone
  | (_, H) :: r, F => (look H d).isNone && freeX d r F
theorem HoldX.put {F : List (Nat × Value)} {a : Act} {d : Nat} {v : Value} : ∀ {C : Cxs}, freeX d C F = true → HoldX C F a → HoldX C F (a.put (some d) v)
  | [], _, _ => trivial
  | (c, H) :: r, hf, hC => by
    simp only [freeX, Bool.and_eq_true] at hf
    obtain ⟨h1, h2, h3, h4⟩ := hC
    have hne : ∀ t u, look H t = some u → d ≠ t := fun t u ht e => by subst e; rw [ht] at hf; simp at hf
    refine ⟨h1, fun hc t u ht => ?_, fun hc t u ht => ?_, HoldX.put hf.2 h4⟩
    · simp only [Act.put]; rw [Array.getElem?_setIfInBounds_ne (hne t u ht)]; exact h2 hc t u ht
    · simp only [Act.put]; rw [Array.getElem?_setIfInBounds_ne (hne t u ht)]; exact h3 hc t u ht
theorem freeX_base {d : Nat} {F : List (Nat × Value)} : ∀ {C : Cxs}, freeX d C F = true → (look F d).isNone = true
  | [], h => h
  | (_, _) :: r, h => by simp only [freeX, Bool.and_eq_true] at h; exact freeX_base (C := r) h.2
theorem Fr.keep {n d : Nat} {F : List (Nat × Value)} {a : Act} {v : Value} (ha : Fr n F a) (hf : (look F d).isNone = true) : Fr n F (a.put (some d) v) := by
  refine ⟨by simp [Act.put, ha.size], ha.defers, fun t u ht => ?_⟩
  have hne : d ≠ t := fun e => by subst e; rw [ht] at hf; simp at hf
  simp only [Act.put]
  rw [Array.getElem?_setIfInBounds_ne hne]
  exact ha.slot t u ht

section
variable {P : Program} {ops : Array Oper} {Q : Exit → Act → World → Prop} {rest : List Oper} {o : Oper} {n d : Nat} {F : List (Nat × Value)} {C : Cxs} {w w' : World} {v : Value} {c : Bool} {H : List (Nat × Value)}

theorem SeqC.start (h : SeqC P ops Q rest n [] F w) : Seq P ops Q rest n F w := fun a ha => h a ha trivial
theorem SeqC.stop (h : Seq P ops Q rest n F w) : SeqC P ops Q rest n [] F w := fun a ha _ => h a ha

/-- The first operation under a new guard: the guard's slot lies in the innermost context. -/
theorem SeqC.open {j t : Nat} {b want : Bool} (hg : o.guard = some (j, want)) (ht : (ops[j]?).bind (·.dst) = some t) (hb : look (match C with | [] => F | (_, H) :: _ => H) t = some (.bool b)) (hd : o.dst = some d) (hn : Nat.blt d n = true) (hf : freeX d C F = true) (hdt : Nat.beq d t = false)
    (hrun : (topX C && (b == want)) = true → Runs P (evF (allX C F)) o w v w) (h : SeqC P ops Q rest n ((topX C && (b == want), [(d, v)]) :: C) F w) : SeqC P ops Q (o :: rest) n C F w := by
  intro a ha hC
  refine wpList_step fun K hK => ?_
  have hwant : Region.wanted o (yielded ops a.tmps) = (topX C && (b == want)) := by
    have hy : yielded ops a.tmps j = if topX C = true then some b else none := by
      unfold yielded
      simp only [ht, Option.bind_some]
      cases C with
      | nil => simp [topX, ha.slot t _ hb]
      | cons x r =>
        obtain ⟨c1, H1⟩ := x
        obtain ⟨h1, h2, h3, h4⟩ := hC
        cases c1
        · simp [topX, h3 rfl t _ hb, undef]
        · simp [topX, h2 rfl t _ hb]
    unfold Region.wanted
    simp only [hg, hy]
    cases topX C <;> cases b <;> cases want <;> rfl
  rw [hwant]
  have hbase := freeX_base hf
  cases hc : (topX C && (b == want)) with
  | true =>
    rw [if_pos rfl]
    have htop : topX C = true := by simp only [Bool.and_eq_true] at hc; exact hc.1
    unfold Oper.wp
    rw [hrun hc a.eval (hC.fr ha htop).ev, Oper.upon_value, hd]
    refine hK _ _ (h _ (ha.keep hbase) ⟨fun _ => htop, fun _ t' u hu => ?_, fun e => (by rw [hc] at e; cases e), hC.put hf⟩)
    rcases look_put hu with ⟨rfl, rfl⟩ | ⟨-, hu⟩
    · simp [Act.put, ha.size, Nat.blt_eq.mp hn]
    · cases hu
  | false =>
    rw [if_neg (by simp), hd]
    refine hK _ _ (h _ (ha.keep hbase) ⟨fun e => (by rw [hc] at e; cases e), fun e => (by rw [hc] at e; cases e), fun _ t' u hu => ?_, hC.put hf⟩)
    rcases look_put hu with ⟨rfl, rfl⟩ | ⟨-, hu⟩
    · simp [Act.put, ha.size, Nat.blt_eq.mp hn]
    · cases hu
/-- The next ones under the same guard. -/
theorem SeqC.next {j t : Nat} {b want : Bool} {c0 : Bool} (hg : o.guard = some (j, want)) (ht : (ops[j]?).bind (·.dst) = some t) (hb : look (match C with | [] => F | (_, H) :: _ => H) t = some (.bool b)) (hc0 : c0 = (topX C && (b == want))) (hd : o.dst = some d) (hn : Nat.blt d n = true) (hf : freeX d ((c0, H) :: C) F = true)
    (hrun : c0 = true → Runs P (evF (allX ((c0, H) :: C) F)) o w v w) (h : SeqC P ops Q rest n ((c0, (d, v) :: H) :: C) F w) : SeqC P ops Q (o :: rest) n ((c0, H) :: C) F w := by
  intro a ha hC
  obtain ⟨h1, h2, h3, h4⟩ := id hC
  refine wpList_step fun K hK => ?_
  have hwant : Region.wanted o (yielded ops a.tmps) = c0 := by
    rw [hc0]
    have hy : yielded ops a.tmps j = if topX C = true then some b else none := by
      unfold yielded
      simp only [ht, Option.bind_some]
      cases C with
      | nil => simp [topX, ha.slot t _ hb]
      | cons x r =>
        obtain ⟨c1, H1⟩ := x
        obtain ⟨g1, g2, g3, g4⟩ := h4
        cases c1
        · simp [topX, g3 rfl t _ hb, undef]
        · simp [topX, g2 rfl t _ hb]
    unfold Region.wanted
    simp only [hg, hy]
    cases topX C <;> cases b <;> cases want <;> rfl
  rw [hwant]
  have hbase := freeX_base hf
  have hne : ∀ t u, look H t = some u → d ≠ t := fun t u ht e => by
    subst e
    simp only [freeX, Bool.and_eq_true] at hf
    rw [ht] at hf; simp at hf
  have hf2 : freeX d C F = true := by simp only [freeX, Bool.and_eq_true] at hf; exact hf.2
  cases hc : c0 with
  | true =>
    rw [if_pos rfl]
    unfold Oper.wp
    rw [hrun hc a.eval (HoldX.fr ha hC hc).ev, Oper.upon_value, hd]
    refine hK _ _ (h _ (ha.keep hbase) ⟨h1, fun _ t' u hu => ?_, fun e => (by rw [hc] at e; cases e), h4.put hf2⟩)
    rcases look_put hu with ⟨rfl, rfl⟩ | ⟨-, hu⟩
    · simp [Act.put, ha.size, Nat.blt_eq.mp hn]
    · simp only [Act.put]; rw [Array.getElem?_setIfInBounds_ne (hne t' u hu)]; exact h2 hc t' u hu
  | false =>
    rw [if_neg (by simp), hd]
    refine hK _ _ (h _ (ha.keep hbase) ⟨h1, fun e => (by rw [hc] at e; cases e), fun _ t' u hu => ?_, h4.put hf2⟩)
    rcases look_put hu with ⟨rfl, rfl⟩ | ⟨-, hu⟩
    · simp [Act.put, ha.size, Nat.blt_eq.mp hn]
    · simp only [Act.put]; rw [Array.getElem?_setIfInBounds_ne (hne t' u hu)]; exact h3 hc t' u hu
/-- 'a || b', 'a && b': the pick that ends the innermost guard, itself under none. -/
theorem SeqC.pick {x y z : Operand} {b p e : Bool} (hg : o.guard = none) (ho : o.op = .pick x y z) (hx : evF F x = some (.bool b)) (hd : o.dst = some d) (hn : Nat.blt d n = true)
    (hv : (c = true → evF (H ++ F) (bif b then y else z) = some (.bool e)) ∧ (c = false → evF F (bif b then y else z) = some (.bool e)))
    (h : Seq P ops Q rest n ((d, .bool e) :: F) w) (_hp : p = p) : SeqC P ops Q (o :: rest) n [(c, H)] F w := by
  intro a ha hC
  refine wpList_plain hg fun K hK => ?_
  have hfr : c = true → Fr n (H ++ F) a := fun hc => HoldX.fr (C := [(c, H)]) ha hC hc
  unfold Oper.wp execOp
  simp only [ho, ha.ev _ _ hx]
  have hval : (if b then a.eval y else a.eval z) = .bool e := by
    have : a.eval (bif b then y else z) = .bool e := by
      cases hc : c with
      | true => exact (hfr hc).ev _ _ (hv.1 hc)
      | false => exact ha.ev _ _ (hv.2 hc)
    cases b <;> exact this
  have hrun : ((do let r ← asBool (.bool b); pure (Next.value (if r then a.eval y else a.eval z))) : Sem Next).run P w = .ok (.value (.bool e)) w := by
    show Result.ok (Next.value (if b then a.eval y else a.eval z)) w = _
    rw [hval]
  rw [hrun, Oper.upon_value, hd]
  exact hK _ _ (h _ (ha.put (Nat.blt_eq.mp hn)))
theorem SeqC.or {x : Operand} {k : Nat} {b p : Bool} (hg : o.guard = none) (ho : o.op = .pick x (.const (.bool true)) (.tmp k)) (hx : evF F x = some (.bool b)) (hc : c = (true && (b == false))) (hk : look H k = some (.bool p)) (hd : o.dst = some d) (hn : Nat.blt d n = true)
    (h : Seq P ops Q rest n ((d, .bool (b || p)) :: F) w) : SeqC P ops Q (o :: rest) n [(c, H)] F w := by
  subst hc
  refine SeqC.pick (b := b) (p := p) hg ho hx hd hn ⟨fun hc => ?_, fun hc => ?_⟩ h rfl
  · cases b
    · show look (H ++ F) k = _
      have : ∀ A : List (Nat × Value), look A k = some (.bool p) → look (A ++ F) k = some (.bool p) := by
        intro A
        induction A with
        | nil => intro h; cases h
        | cons q r ih =>
          obtain ⟨i, u⟩ := q
          intro h
          unfold look at h
          show (bif Nat.beq i k then some u else look (r ++ F) k) = _
          cases hb : Nat.beq i k with
          | true => rw [hb] at h; exact h
          | false => rw [hb] at h; exact ih h
      exact this H hk
    · cases hc
  · cases b
    · cases hc
    · rfl
theorem SeqC.and {x : Operand} {k : Nat} {b p : Bool} (hg : o.guard = none) (ho : o.op = .pick x (.tmp k) (.const (.bool false))) (hx : evF F x = some (.bool b)) (hc : c = (true && (b == true))) (hk : look H k = some (.bool p)) (hd : o.dst = some d) (hn : Nat.blt d n = true)
    (h : Seq P ops Q rest n ((d, .bool (b && p)) :: F) w) : SeqC P ops Q (o :: rest) n [(c, H)] F w := by
  subst hc
  refine SeqC.pick (b := b) (p := p) hg ho hx hd hn ⟨fun hc => ?_, fun hc => ?_⟩ h rfl
  · cases b
    · cases hc
    · show look (H ++ F) k = _
      have : ∀ A : List (Nat × Value), look A k = some (.bool p) → look (A ++ F) k = some (.bool p) := by
        intro A
        induction A with
        | nil => intro h; cases h
        | cons q r ih =>
          obtain ⟨i, u⟩ := q
          intro h
          unfold look at h
          show (bif Nat.beq i k then some u else look (r ++ F) k) = _
          cases hb : Nat.beq i k with
          | true => rw [hb] at h; exact h
          | false => rw [hb] at h; exact ih h
      exact this H hk
  · cases b
    · rfl
    · cases hc
/-- The end of an inner guard within an outer one. -/
theorem SeqC.close {j t : Nat} {b want : Bool} {c0 c2 : Bool} {H2 : List (Nat × Value)} (hg : o.guard = some (j, want)) (ht : (ops[j]?).bind (·.dst) = some t) (hb : look (match C with | [] => F | (_, H) :: _ => H) t = some (.bool b)) (hc0 : c0 = (topX C && (b == want))) (hd : o.dst = some d) (hn : Nat.blt d n = true) (hf : freeX d ((c0, H) :: C) F = true)
    (hrun : c0 = true → ∀ ρ : Operand → Value, (∀ x u, evF (allX ((c0, H) :: C) F) x = some u → ρ x = u) → (c2 = true → ∀ k u, look H2 k = some u → ρ (.tmp k) = u) → (execOp ρ o).run P w = .ok (.value v) w') (h : SeqC P ops Q rest n ((c0, (d, v) :: H) :: C) F w') (hw : c0 = false → w' = w) :
    SeqC P ops Q (o :: rest) n ((c2, H2) :: (c0, H) :: C) F w := by
  intro a ha hC0
  obtain ⟨-, q2, -, hC⟩ := hC0
  obtain ⟨h1, h2, h3, h4⟩ := id hC
  refine wpList_step fun K hK => ?_
  have hwant : Region.wanted o (yielded ops a.tmps) = c0 := by
    rw [hc0]
    have hy : yielded ops a.tmps j = if topX C = true then some b else none := by
      unfold yielded
      simp only [ht, Option.bind_some]
      cases C with
      | nil => simp [topX, ha.slot t _ hb]
      | cons x r =>
        obtain ⟨c1, H1⟩ := x
        obtain ⟨g1, g2, g3, g4⟩ := h4
        cases c1
        · simp [topX, g3 rfl t _ hb, undef]
        · simp [topX, g2 rfl t _ hb]
    unfold Region.wanted
    simp only [hg, hy]
    cases topX C <;> cases b <;> cases want <;> rfl
  rw [hwant]
  have hbase := freeX_base hf
  have hne : ∀ t u, look H t = some u → d ≠ t := fun t u ht e => by
    subst e
    simp only [freeX, Bool.and_eq_true] at hf
    rw [ht] at hf; simp at hf
  have hf2 : freeX d C F = true := by simp only [freeX, Bool.and_eq_true] at hf; exact hf.2
  cases hc : c0 with
  | true =>
    rw [if_pos rfl]
    unfold Oper.wp
    rw [hrun hc a.eval (HoldX.fr ha hC hc).ev (fun hc2 k u hk => by have := q2 hc2 k u hk; simp [Act.eval, this]), Oper.upon_value, hd]
    refine hK _ _ (h _ (ha.keep hbase) ⟨h1, fun _ t' u hu => ?_, fun e => (by rw [hc] at e; cases e), h4.put hf2⟩)
    rcases look_put hu with ⟨rfl, rfl⟩ | ⟨-, hu⟩
    · simp [Act.put, ha.size, Nat.blt_eq.mp hn]
    · simp only [Act.put]; rw [Array.getElem?_setIfInBounds_ne (hne t' u hu)]; exact h2 hc t' u hu
  | false =>
    rw [if_neg (by simp), hd, ← hw hc]
    refine hK _ _ (h _ (ha.keep hbase) ⟨h1, fun e => (by rw [hc] at e; cases e), fun _ t' u hu => ?_, h4.put hf2⟩)
    rcases look_put hu with ⟨rfl, rfl⟩ | ⟨-, hu⟩
    · simp [Act.put, ha.size, Nat.blt_eq.mp hn]
    · simp only [Act.put]; rw [Array.getElem?_setIfInBounds_ne (hne t' u hu)]; exact h3 hc t' u hu
theorem run_pickB {P : Program} {o : Oper} {x y z : Operand} {b e : Bool} {w : World} {ρ : Operand → Value} (ho : o.op = .pick x y z) (hx : ρ x = .bool b) (hv : ρ (bif b then y else z) = .bool e) : (execOp ρ o).run P w = .ok (.value (.bool e)) w := by
  unfold execOp
  simp only [ho, hx]
  show Result.ok (Next.value (if b then ρ y else ρ z)) w = _
  cases b <;> simpa using hv
theorem SeqC.orG {x : Operand} {k j t : Nat} {b p bg want : Bool} {c0 c2 : Bool} {H2 : List (Nat × Value)} (hg : o.guard = some (j, want)) (ht : (ops[j]?).bind (·.dst) = some t) (hb : look (match C with | [] => F | (_, H) :: _ => H) t = some (.bool bg)) (hc0 : c0 = (topX C && (bg == want))) (hd : o.dst = some d) (hn : Nat.blt d n = true) (hf : freeX d ((c0, H) :: C) F = true)
    (ho : o.op = .pick x (.const (.bool true)) (.tmp k)) (hx : evF (allX ((c0, H) :: C) F) x = some (.bool b)) (hc2 : c2 = (c0 && (b == false))) (hk : look H2 k = some (.bool p)) (h : SeqC P ops Q rest n ((c0, (d, .bool (b || p)) :: H) :: C) F w) : SeqC P ops Q (o :: rest) n ((c2, H2) :: (c0, H) :: C) F w := by
  refine SeqC.close hg ht hb hc0 hd hn hf (fun hc ρ hρ h2 => run_pickB ho (hρ _ _ hx) ?_) h (fun _ => rfl)
  cases b
  · exact h2 (by rw [hc2, hc]; rfl) k _ hk
  · exact hρ (.const (.bool true)) _ rfl
theorem SeqC.andG {x : Operand} {k j t : Nat} {b p bg want : Bool} {c0 c2 : Bool} {H2 : List (Nat × Value)} (hg : o.guard = some (j, want)) (ht : (ops[j]?).bind (·.dst) = some t) (hb : look (match C with | [] => F | (_, H) :: _ => H) t = some (.bool bg)) (hc0 : c0 = (topX C && (bg == want))) (hd : o.dst = some d) (hn : Nat.blt d n = true) (hf : freeX d ((c0, H) :: C) F = true)
    (ho : o.op = .pick x (.tmp k) (.const (.bool false))) (hx : evF (allX ((c0, H) :: C) F) x = some (.bool b)) (hc2 : c2 = (c0 && (b == true))) (hk : look H2 k = some (.bool p)) (h : SeqC P ops Q rest n ((c0, (d, .bool (b && p)) :: H) :: C) F w) : SeqC P ops Q (o :: rest) n ((c2, H2) :: (c0, H) :: C) F w := by
  refine SeqC.close hg ht hb hc0 hd hn hf (fun hc ρ hρ h2 => run_pickB ho (hρ _ _ hx) ?_) h (fun _ => rfl)
  cases b
  · exact hρ (.const (.bool false)) _ rfl
  · exact h2 (by rw [hc2, hc]; rfl) k _ hk
end
end Go.Proofs.Ytijaldpmpjapiaa
namespace Go.Proofs.Ytijaldpmpjapiaa
open Go.RowKit
variable [Inhabited (List Deferred)]

theorem Blk.ne {w : World} {g g' : Nat} {T T' : TypeId} {cs cs' : Array Value} (h : Blk w g T cs) (h' : Blk w g' T' cs') (hT : T ≠ T') : g ≠ g' := by
  rintro rfl
  unfold Blk at h h'
  rw [h] at h'
  injection h' with h'
  injection h' with h1 h2
  exact hT h2

section
variable {P : Program} {E : Operand → Option Value} {F : List (Nat × Value)} {o : Oper} {w : World} {T d n : Nat} {x y : Operand} {ops : Array Oper} {Q : Exit → Act → World → Prop} {rest : List Oper}
theorem Runs.makeN {k k' : IntKind} {c : Int} {m e b : Nat} {z : Value} (ho : o.op = .makeSlice T x y) (hx : E x = some (.int k c)) (hy : E y = some (.int k' c)) (hT : P.underlying T = some (.slice e)) (hz : zeroIs P e = some (some z)) (hsz : sizeIs P e z.cells.size = true) (hby : (P.info? e).map (·.bytes) = some b) (hc : c = (m : Int)) (hm : b * m ≤ 281474976710656) (h63 : m ≤ 9223372036854775807) :
    Runs P E o w (.slice (some ⟨w.heap.size, 0, none⟩) m m) (w.alloc (.cells (madeCells z.cells (m * z.cells.size)) e)) := fun ρ h => by
  obtain ⟨i, hi, hs⟩ := sizeIs_spec hsz
  have hz' : i.zero = some z := by unfold zeroIs at hz; rw [hi] at hz; injection hz
  have hb' : i.bytes = b := by rw [hi] at hby; injection hby
  subst hc
  have hr := run_make (P := P) w T e i z hT hi hz' k k' m m (by omega) (Int.le_refl _) (by rw [hb', ← Int.natCast_mul]; omega) (by omega)
  rw [Int.toNat_natCast, hs] at hr
  unfold execOp; simp only [ho]; rw [h _ _ hx, h _ _ hy]
  simp only [Sem.run_bind, hr, Result.andThen_ok]; rfl
theorem Seq.makeN {k k' : IntKind} {c : Int} {m e b : Nat} {z : Value} (ho : o.op = .makeSlice T x y) (hx : evF F x = some (.int k c)) (hy : evF F y = some (.int k' c)) (hT : P.underlying T = some (.slice e)) (hz : zeroIs P e = some (some z)) (hsz : sizeIs P e z.cells.size = true) (hby : (P.info? e).map (·.bytes) = some b) (hc : c = (m : Int)) (hm : b * m ≤ 281474976710656) (h63 : m ≤ 9223372036854775807)
    (hg : o.guard = none) (hd : o.dst = some d) (hn : Nat.blt d n = true)
    (h : ∀ g w', New w w' g e (madeCells z.cells (m * z.cells.size)) → Seq P ops Q rest n ((d, .slice (some ⟨g, 0, none⟩) m m) :: F) w') : Seq P ops Q (o :: rest) n F w :=
  Seq.val (Runs.makeN ho hx hy hT hz hsz hby hc hm h63) hg hd hn (h _ _ (new_of w _ e))
/-- A slice that was made. -/
def NewSl (B m : Nat) (T : TypeId) (cs : Array Value) (v : Value) (w : World) : Prop := ∃ g, v = .slice (some ⟨g, 0, none⟩) m m ∧ Blk w g T cs ∧ B ≤ g
theorem NewSl.stable {B m : Nat} {T : TypeId} {cs : Array Value} : ∀ v w w', Grow w w' → NewSl B m T cs v w → NewSl B m T cs v w' := fun _ _ _ hG ⟨g, e, h, hB⟩ => ⟨g, e, h.step hG, hB⟩
theorem Dr.makeS {F0 : List (Nat × Value)} {w0 : World} {Γ : Env} {r : List Oper} {B : Env → Prop} {L : List Nat} {kk : Nat} {k k' : IntKind} {c : Int} {m e b : Nat} {z : Value} (hu : uniq Γ = true) (ho : o.op = .makeSlice T x y) (hx : evX [] F0 Γ o x = some (.int k c)) (hy : evX [] F0 Γ o y = some (.int k' c)) (hT : P.underlying T = some (.slice e)) (hz : zeroIs P e = some (some z)) (hsz : sizeIs P e z.cells.size = true) (hby : (P.info? e).map (·.bytes) = some b) (hc : c = (m : Int)) (hm : b * m ≤ 281474976710656) (h63 : m ≤ 9223372036854775807)
    (hg : o.guard = none)
    (hr : DrW P ops Q n F0 Grow w0 L B (kk + 1) r ((kk, o.dst, .sat (NewSl w0.heap.size m e (madeCells z.cells (m * z.cells.size)))) :: Γ)) (hl : memB L kk = false := by rfl) : DrW P ops Q n F0 Grow w0 L B kk (o :: r) Γ :=
  Dr.make hu NewSl.stable hg (fun w hG => ⟨_, _, Runs.makeN ho hx hy hT hz hsz hby hc hm h63, (new_of w _ e).below, w.heap.size, rfl, (new_of w _ e).blk, hG.size⟩) hr hl
end
theorem made_i64 (m : Nat) : madeCells (Value.int .i64 0).cells (m * (Value.int .i64 0).cells.size) = ((List.replicate m (0 : Int)).map (Value.int .i64)).toArray := by
  show madeCells #[Value.int .i64 0] (m * 1) = _
  rw [Nat.mul_one, madeCells_one, List.map_replicate]
theorem made_u64 (m : Nat) : madeCells (Value.int .u64 0).cells (m * (Value.int .u64 0).cells.size) = ((List.replicate m (0 : Nat)).map (fun (d : Nat) => Value.int .u64 (d : Int))).toArray := by
  show madeCells #[Value.int .u64 0] (m * 1) = _
  rw [Nat.mul_one, madeCells_one, List.map_replicate]; rfl
section
variable {P : Program} {ops : Array Oper} {Q : Exit → Act → World → Prop} {rest : List Oper} {o : Oper} {n d : Nat} {F : List (Nat × Value)} {C : Cxs} {w w' : World} {v : Value} {c : Bool} {H : List (Nat × Value)}
/-- The first operation under a new guard: the guard's slot lies in the innermost context. -/
theorem SeqC.openC {f : FuncId} {args : Array Value} {j t : Nat} {b want : Bool} (hg : o.guard = some (j, want)) (ht : (ops[j]?).bind (·.dst) = some t) (hb : look (match C with | [] => F | (_, H) :: _ => H) t = some (.bool b)) (hd : o.dst = some d) (hn : Nat.blt d n = true) (hf : freeX d C F = true) (hdt : Nat.beq d t = false)
    (hrun : (topX C && (b == want)) = true → Enters P (evF (allX C F)) o w f args) (hcall : (topX C && (b == want)) = true → Calls P f args w fun e w' => e = .returned v ∧ Grow w w') (h : ∀ w', Grow w w' → SeqC P ops Q rest n ((topX C && (b == want), [(d, v)]) :: C) F w') : SeqC P ops Q (o :: rest) n C F w := by
  intro a ha hC
  refine wpList_step fun K hK => ?_
  have hwant : Region.wanted o (yielded ops a.tmps) = (topX C && (b == want)) := by
    have hy : yielded ops a.tmps j = if topX C = true then some b else none := by
      unfold yielded
      simp only [ht, Option.bind_some]
      cases C with
      | nil => simp [topX, ha.slot t _ hb]
      | cons x r =>
        obtain ⟨c1, H1⟩ := x
        obtain ⟨h1, h2, h3, h4⟩ := hC
        cases c1
        · simp [topX, h3 rfl t _ hb, undef]
        · simp [topX, h2 rfl t _ hb]
    unfold Region.wanted
    simp only [hg, hy]
    cases topX C <;> cases b <;> cases want <;> rfl
  rw [hwant]
  have hbase := freeX_base hf
  cases hc : (topX C && (b == want)) with
  | true =>
    rw [if_pos rfl]
    have htop : topX C = true := by simp only [Bool.and_eq_true] at hc; exact hc.1
    unfold Oper.wp
    rw [hrun hc a.eval (hC.fr ha htop).ev, Oper.upon_enter, hd]
    refine (hcall hc).mono fun e w' ⟨he', hgr⟩ => ?_
    subst he'
    refine hK _ _ (h _ hgr _ (ha.keep hbase) ⟨fun _ => htop, fun _ t' u hu => ?_, fun e => (by rw [hc] at e; cases e), hC.put hf⟩)
    rcases look_put hu with ⟨rfl, rfl⟩ | ⟨-, hu⟩
    · simp [Act.put, ha.size, Nat.blt_eq.mp hn]
    · cases hu
  | false =>
    rw [if_neg (by simp), hd]
    refine hK _ _ (h _ (Grow.refl _) _ (ha.keep hbase) ⟨fun e => (by rw [hc] at e; cases e), fun e => (by rw [hc] at e; cases e), fun _ t' u hu => ?_, hC.put hf⟩)
    rcases look_put hu with ⟨rfl, rfl⟩ | ⟨-, hu⟩
    · simp [Act.put, ha.size, Nat.blt_eq.mp hn]
    · cases hu
/-- The next ones under the same guard. -/
theorem SeqC.nextC {f : FuncId} {args : Array Value} {j t : Nat} {b want : Bool} {c0 : Bool} (hg : o.guard = some (j, want)) (ht : (ops[j]?).bind (·.dst) = some t) (hb : look (match C with | [] => F | (_, H) :: _ => H) t = some (.bool b)) (hc0 : c0 = (topX C && (b == want))) (hd : o.dst = some d) (hn : Nat.blt d n = true) (hf : freeX d ((c0, H) :: C) F = true)
    (hrun : c0 = true → Enters P (evF (allX ((c0, H) :: C) F)) o w f args) (hcall : c0 = true → Calls P f args w fun e w' => e = .returned v ∧ Grow w w') (h : ∀ w', Grow w w' → SeqC P ops Q rest n ((c0, (d, v) :: H) :: C) F w') : SeqC P ops Q (o :: rest) n ((c0, H) :: C) F w := by
  intro a ha hC
  obtain ⟨h1, h2, h3, h4⟩ := id hC
  refine wpList_step fun K hK => ?_
  have hwant : Region.wanted o (yielded ops a.tmps) = c0 := by
    rw [hc0]
    have hy : yielded ops a.tmps j = if topX C = true then some b else none := by
      unfold yielded
      simp only [ht, Option.bind_some]
      cases C with
      | nil => simp [topX, ha.slot t _ hb]
      | cons x r =>
        obtain ⟨c1, H1⟩ := x
        obtain ⟨g1, g2, g3, g4⟩ := h4
        cases c1
        · simp [topX, g3 rfl t _ hb, undef]
        · simp [topX, g2 rfl t _ hb]
    unfold Region.wanted
    simp only [hg, hy]
    cases topX C <;> cases b <;> cases want <;> rfl
  rw [hwant]
  have hbase := freeX_base hf
  have hne : ∀ t u, look H t = some u → d ≠ t := fun t u ht e => by
    subst e
    simp only [freeX, Bool.and_eq_true] at hf
    rw [ht] at hf; simp at hf
  have hf2 : freeX d C F = true := by simp only [freeX, Bool.and_eq_true] at hf; exact hf.2
  cases hc : c0 with
  | true =>
    rw [if_pos rfl]
    unfold Oper.wp
    rw [hrun hc a.eval (HoldX.fr ha hC hc).ev, Oper.upon_enter, hd]
    refine (hcall hc).mono fun e w' ⟨he', hgr⟩ => ?_
    subst he'
    refine hK _ _ (h _ hgr _ (ha.keep hbase) ⟨h1, fun _ t' u hu => ?_, fun e => (by rw [hc] at e; cases e), h4.put hf2⟩)
    rcases look_put hu with ⟨rfl, rfl⟩ | ⟨-, hu⟩
    · simp [Act.put, ha.size, Nat.blt_eq.mp hn]
    · simp only [Act.put]; rw [Array.getElem?_setIfInBounds_ne (hne t' u hu)]; exact h2 hc t' u hu
  | false =>
    rw [if_neg (by simp), hd]
    refine hK _ _ (h _ (Grow.refl _) _ (ha.keep hbase) ⟨h1, fun e => (by rw [hc] at e; cases e), fun _ t' u hu => ?_, h4.put hf2⟩)
    rcases look_put hu with ⟨rfl, rfl⟩ | ⟨-, hu⟩
    · simp [Act.put, ha.size, Nat.blt_eq.mp hn]
    · simp only [Act.put]; rw [Array.getElem?_setIfInBounds_ne (hne t' u hu)]; exact h3 hc t' u hu
end
end Go.Proofs.Ytijaldpmpjapiaa
namespace Go.Proofs.Ytijaldpmpjapiaa
open Go.RowKit
variable [Inhabited (List Deferred)]

/-- A slice of the call's own. -/
structure Own (w : World) (B : Nat) (e : TypeId) (size : Nat) (v : Value) (n : Nat) (xs : List Value) : Prop where
  row : w.ownsRow B e size v n xs
section
variable {w w' : World} {B size n : Nat} {e : TypeId} {v : Value} {xs : List Value}
theorem Own.nil (w : World) (B : Nat) (e : TypeId) (size : Nat) : Own w B e size (.slice none 0 0) 0 [] := ⟨World.ownsRow_nil _ _ _ _⟩
theorem Own.step (h : Own w B e size v n xs) (hb : Below w.heap.size w w') : Own w' B e size v n xs := ⟨own_below h.row hb⟩
theorem Own.put {g B' : Nat} {T : TypeId} {cur cs : Array Value} (h : Own w B e size v n xs) (k : Blk w g T cur) (p : Put w w' g T cs) (_e : B' ≤ g) (hne : e ≠ T := by decide) : Own w' B e size v n xs := ⟨h.row.kept p.grown (own_ne_blk h.row k hne)⟩
theorem Own.reads (h : Own w B e size v n xs) : ∃ A c, v = .slice A n c ∧ Reads w w.heap.size size A n xs := reads_own h.row
theorem Reads.blk {g : Nat} {T : TypeId} {cs : Array Value} (k : Blk w g T cs) (m : Nat) (hm : cs.size = m * size) : Reads w w.heap.size size (some ⟨g, 0, none⟩) m cs.toList := by
  refine ⟨by simpa using hm, fun _ => ⟨_, rfl, k.lt, fun j u hu => ?_⟩⟩
  have hplain : (⟨g, 0, none⟩ : Addr).add j = ⟨g, j, none⟩ := by unfold Addr.add; split <;> simp_all
  rw [hplain, cell_of_row _ _ _ _ _ _ k]
  simpa using hu
/-- What append leaves. -/
structure App (w w' : World) (B : Nat) (v : Value) : Prop where
  below : Below B w w'
  grown : w.grownBy w' v.ownBlock
end
section
variable {P : Program} {ops : Array Oper} {Q : Exit → Act → World → Prop} {rest : List Oper} {o : Oper} {n d : Nat} {F : List (Nat × Value)} {w : World} {v : Value} {x y : Operand}
theorem Seq.append {t e B B2 size b k m c : Nat} {A : Option Addr} {z : Value} {xs news : List Value} (ho : o.op = .call { callee := .builtin .append, args := #[x, y], argTypes := #[t, t] }) (hx : evF F x = some v) (hy : evF F y = some (.slice A m c)) (ht : P.underlying t = some (.slice e)) (hs : sizeIs P e size = true) (hz : zeroIs P e = some (some z)) (hzs : z.cells.size = size) (hsz : 0 < size) (hby : (P.info? e).map (·.bytes) = some b)
    (hown : Own w B e size v k xs) (hr : Reads w B2 size A m news) (h1 : ∀ u ∈ news, u.oneCell' = true) (hB : B ≤ w.heap.size) (h63 : k + m ≤ maxLen) (hbytes : (k + m) * b ≤ 140737488355328) (hg : o.guard = none) (hd : o.dst = some d) (hn : Nat.blt d n = true)
    (h : ∀ v' w', Own w' B e size v' (k + m) (xs ++ news) → App w w' B v → Seq P ops Q rest n ((d, v') :: F) w') : Seq P ops Q (o :: rest) n F w := by
  obtain ⟨i, hi, hisz⟩ := sizeIs_spec hs
  have hz' : i.zero = some z := by unfold zeroIs at hz; rw [hi] at hz; injection hz
  have hb' : i.bytes = b := by rw [hi] at hby; injection hby
  obtain ⟨v', w', hrun, h2, h3, _⟩ := run_append_any (P := P) w B t o.type e i z size b ht hi hz' hisz hb' hzs hsz v k xs hown.row B2 A m c news hr h1 h63 hbytes hB
  refine Seq.val (v := v') (w' := w') (fun ρ hρ => ?_) hg hd hn (h v' w' ⟨h2⟩ ⟨?_, h3⟩)
  · unfold execOp
    simp only [ho, resolve, invoke, builtin, Sem.run_bind, Sem.run_pure, Result.andThen_ok, List.map_toArray, List.map_cons, List.map_nil, hρ _ _ hx, hρ _ _ hy, hrun]
  · refine ⟨h3.os, h3.tape, h3.output, h3.size, fun j hj => h3.block j (by omega) fun e' => ?_⟩
    rcases hown.row.2 with ⟨rfl, _⟩ | ⟨g, cap, cur, rfl, hBg, _⟩
    · cases e'
    · injection e' with e'
      have : j = g := e'
      omega
end
/-- Bytes, as cells; as text. -/
def Bt (l : List Nat) : List Value := l.map fun (d : Nat) => Value.int .u8 (d : Int)
def strOf (l : List Nat) : ByteArray := ⟨(l.map UInt8.ofNat).toArray⟩
theorem length_Bt (l : List Nat) : (Bt l).length = l.length := by simp [Bt]
theorem get_Bt (l : List Nat) (k : Nat) : (Bt l)[k]? = l[k]?.map fun (d : Nat) => Value.int .u8 (d : Int) := by simp [Bt]
theorem Bt_append (a b : List Nat) : Bt (a ++ b) = Bt a ++ Bt b := by simp [Bt]
section
variable {P : Program} {E : Operand → Option Value} {o : Oper} {w : World} {x : Operand}
theorem Runs.convBS {T T' e B n c : Nat} {A : Option Addr} {l : List Nat} (ho : o.op = .convert T T' x) (hx : E x = some (.slice A n c)) (hT : P.underlying T = some (.slice e)) (he : P.underlying e = some (.int .u8)) (hd : P.underlying T' = some .string) (hr : Reads w B 1 A n (Bt l)) (hl : ∀ d ∈ l, d < 256) :
    Runs P E o w (.string (strOf l)) w := fun ρ h => by
  have hlen : l.length = n := by have := hr.1; rw [length_Bt] at this; omega
  unfold execOp
  simp only [ho]; rw [h _ _ hx]
  suffices hh : (convert T T' (.slice A n c)).run P w = .ok (.string (strOf l)) w by simp only [Sem.run_bind, hh, Result.andThen_ok]; rfl
  rcases Nat.eq_zero_or_pos n with h0 | h0
  · subst h0
    obtain rfl : l = [] := List.eq_nil_of_length_eq_zero hlen
    rcases A with _ | ad
    · rw [run_convert_bytes_nil w T e hT he 0 c T' hd]; rfl
    · exact run_convert_bytes_back w T T' e ad c [] hT he hd (fun j hj => absurd hj (by simp))
  · obtain ⟨ad, rfl, _, hc⟩ := hr.2 h0
    have := run_convert_bytes_back w T T' e ad c (l.map UInt8.ofNat) hT he hd (fun j hj => by
      rw [List.length_map] at hj
      have h1 := hc j (.int .u8 ((l[j] : Nat) : Int)) (by rw [get_Bt, List.getElem?_eq_getElem hj]; rfl)
      rw [h1]
      have h2 := hl l[j] (List.getElem_mem hj)
      rw [List.getElem_map, UInt8.toNat_ofNat', Nat.mod_eq_of_lt h2])
    rw [List.length_map, hlen] at this
    exact this
end
end Go.Proofs.Ytijaldpmpjapiaa
namespace Go.Proofs.Ytijaldpmpjapiaa
open Go.RowKit

theorem strOf_size (l : List Nat) : (strOf l).size = l.length := by simp [strOf, ByteArray.size]
theorem strOf_data (l : List Nat) : (strOf l).data.toList = l.map UInt8.ofNat := by simp [strOf]
theorem bytes_ext {a b : ByteArray} (h : a.data.toList = b.data.toList) : a = b := by
  cases a; cases b; congr 1; exact Array.ext' h
theorem strOf_get {l : List Nat} {j c : Nat} (h : l[j]? = some c) : (strOf l)[j]? = some (UInt8.ofNat c) := by
  have hj : j < l.length := (List.getElem?_eq_some_iff.1 h).1
  have hs : j < (strOf l).size := by rw [strOf_size]; exact hj
  rw [getElem?_pos (strOf l) j hs]
  congr 1
  have e : l[j] = c := (List.getElem?_eq_some_iff.1 h).2
  show (strOf l).data[j]'hs = _
  simp [strOf, e]
theorem strOf_append (a b : List Nat) : strOf a ++ strOf b = strOf (a ++ b) := by
  apply bytes_ext
  rw [ByteArray.toList_data_append, strOf_data, strOf_data, strOf_data, List.map_append]
theorem strOf_extract (l : List Nat) (a b : Nat) : (strOf l).extract a b = strOf ((l.take b).drop a) := by
  apply bytes_ext
  rw [strOf_data, ByteArray.data_extract, Array.toList_extract, strOf_data, List.map_drop, List.map_take]
  simp [List.extract_eq_take_drop, List.drop_take]
theorem ofNat_inj {a b : Nat} (ha : a < 256) (hb : b < 256) (h : UInt8.ofNat a = UInt8.ofNat b) : a = b := by
  have := congrArg UInt8.toNat h
  simpa [Nat.mod_eq_of_lt ha, Nat.mod_eq_of_lt hb] using this
theorem map_ofNat_inj : ∀ {a b : List Nat}, (∀ x ∈ a, x < 256) → (∀ x ∈ b, x < 256) → a.map UInt8.ofNat = b.map UInt8.ofNat → a = b
  | [], [], _, _, _ => rfl
  | [], _ :: _, _, _, h => by simp at h
  | _ :: _, [], _, _, h => by simp at h
  | x :: a, y :: b, ha, hb, h => by
    rw [List.map_cons, List.map_cons] at h
    injection h with h1 h2
    rw [ofNat_inj (ha x (by simp)) (hb y (by simp)) h1, map_ofNat_inj (fun z hz => ha z (by simp [hz])) (fun z hz => hb z (by simp [hz])) h2]
theorem strOf_inj {a b : List Nat} (ha : ∀ x ∈ a, x < 256) (hb : ∀ x ∈ b, x < 256) (h : strOf a = strOf b) : a = b :=
  map_ofNat_inj ha hb (by rw [← strOf_data, ← strOf_data, h])
theorem toList_loop (s : ByteArray) : ∀ n i r, s.size - i = n → ByteArray.toList.loop s i r = r.reverse ++ s.data.toList.drop i := by
  intro n
  induction n with
  | zero =>
    intro i r h
    unfold ByteArray.toList.loop
    rw [if_neg (by omega), List.drop_of_length_le (by have : s.data.toList.length = s.size := Array.length_toList
                                                      omega), List.append_nil]
  | succ n ih =>
    intro i r h
    unfold ByteArray.toList.loop
    have hi : i < s.size := by omega
    have hl : i < s.data.toList.length := by rw [Array.length_toList]; exact hi
    rw [if_pos hi, ih _ _ (by omega), List.drop_eq_getElem_cons hl]
    have : s.get! i = s.data.toList[i] := by
      cases s with
      | mk d => simp [ByteArray.get!, ByteArray.size] at hi ⊢; simp [getElem!_pos, hi]
    rw [this]
    simp
theorem toList_data (s : ByteArray) : s.toList = s.data.toList := by
  unfold ByteArray.toList
  rw [toList_loop s _ 0 [] rfl]
  simp
theorem strOf_beq {a b : List Nat} (ha : ∀ x ∈ a, x < 256) (hb : ∀ x ∈ b, x < 256) : ((strOf a).toList == (strOf b).toList) = decide (a = b) := by
  rw [toList_data, toList_data, strOf_data, strOf_data, Bool.eq_iff_iff]
  simp
  constructor
  · exact map_ofNat_inj ha hb
  · intro h; rw [h]
/-- A text's bytes. -/
def bytesOf (s : ByteArray) : List Nat := s.data.toList.map UInt8.toNat
theorem bytesOf_lt (s : ByteArray) : ∀ x ∈ bytesOf s, x < 256 := by
  intro x hx
  obtain ⟨c, _, rfl⟩ := List.mem_map.1 hx
  exact c.toNat_lt
theorem strOf_bytesOf (s : ByteArray) : strOf (bytesOf s) = s := by
  apply bytes_ext
  rw [strOf_data]
  unfold bytesOf
  rw [List.map_map]
  conv => rhs; rw [← List.map_id s.data.toList]
  apply List.map_congr_left
  intro c _
  simp
theorem ofNat_toNat {c : Nat} (h : c < 256) : (UInt8.ofNat c).toNat = c := by simp [Nat.mod_eq_of_lt h]
/-- The place of the first byte of a kind; the length: there is none. -/
def idx (l : List Nat) (c : Nat) : Nat := l.findIdx (· == c)
theorem indexByte_idx (c : Nat) (hc : c < 256) : ∀ l : List Nat, (∀ x ∈ l, x < 256) → Lib.indexByte (l.map UInt8.ofNat) (UInt8.ofNat c) = if c ∈ l then (idx l c : Int) else -1
  | [], _ => by simp [Lib.indexByte]
  | x :: l, h => by
    have ih := indexByte_idx c hc l fun z hz => h z (by simp [hz])
    rw [List.map_cons, Lib.indexByte, ih]
    by_cases hx : x = c
    · subst hx
      simp [idx, List.findIdx_cons]
    · have hne : (UInt8.ofNat x == UInt8.ofNat c) = false := by
        rw [beq_eq_false_iff_ne]
        intro e
        exact hx (ofNat_inj (h x (by simp)) hc e)
      have hcons : idx (x :: l) c = idx l c + 1 := by
        have hxc : (x == c) = false := beq_eq_false_iff_ne.2 hx
        unfold idx
        rw [List.findIdx_cons, hxc]
        rfl
      rw [hne, hcons]
      by_cases hm : c ∈ l
      · have e : ((idx l c : Int) == -1) = false := by rw [beq_eq_false_iff_ne]; omega
        rw [if_pos hm, if_pos (List.mem_cons_of_mem _ hm), e]
        rfl
      · have hno : ¬ c ∈ x :: l := fun h => by
          rcases List.mem_cons.1 h with h | h
          · exact hx h.symm
          · exact hm h
        rw [if_neg hno, if_neg hm]
        rfl
theorem idx_split (l : List Nat) (c : Nat) (h : c ∈ l) : idx l c < l.length ∧ c ∉ l.take (idx l c) ∧ l = l.take (idx l c) ++ c :: l.drop (idx l c + 1) := by
  have h1 : idx l c < l.length := List.findIdx_lt_length.2 ⟨c, h, by simp⟩
  have h2 : l[idx l c] = c := by
    have := List.findIdx_getElem (p := (· == c)) (xs := l) (w := h1)
    exact eq_of_beq this
  refine ⟨h1, ?_, ?_⟩
  · intro hm
    obtain ⟨j, hj, he⟩ := List.getElem_of_mem hm
    rw [List.length_take] at hj
    have := List.not_of_lt_findIdx (p := (· == c)) (xs := l) (i := j) (show j < idx l c by omega)
    rw [List.getElem_take] at he
    simp [he] at this
  · conv => lhs; rw [← List.take_append_drop (idx l c) l]
    rw [List.drop_eq_getElem_cons h1, h2]
section
variable {P : Program} {ops : Array Oper} {Q : Exit → Act → World → Prop} {rest : List Oper} {E : Operand → Option Value} {o : Oper} {n d : Nat} {F : List (Nat × Value)} {w w' : World} {v : Value} {x y z : Operand} {T T' : TypeId}
variable [Inhabited (List Deferred)]
theorem Runs.indexL {k : IntKind} {p : Int} {l : List Nat} {j c : Nat} (ho : o.op = .index T x y) (hx : E x = some (.string (strOf l))) (hy : E y = some (.int k p)) (hT : P.underlying T = some .string) (hp : p = (j : Int)) (hl : l[j]? = some c) (hc : c < 256) : Runs P E o w (.int .u8 (c : Int)) w :=
  (Runs.indexS ho hx hy hT hp (strOf_get hl)).cast (by rw [ofNat_toNat hc])
theorem Runs.sliceFrom {k : IntKind} {p : Int} {l : List Nat} {j : Nat} (ho : o.op = .slice T x (some y) none none) (hx : E x = some (.string (strOf l))) (hy : E y = some (.int k p)) (hT : P.underlying T = some .string) (hp : p = (j : Int)) (hj : j ≤ l.length) : Runs P E o w (.string (strOf (l.drop j))) w := fun ρ h => by
  subst hp
  have := run_slice_string_l (P := P) w T (strOf l) hT k (j : Int) (by omega) (by rw [strOf_size]; omega)
  rw [Int.toNat_natCast, strOf_extract, strOf_size, List.take_length] at this
  unfold execOp; simp only [ho, Option.map_some, Option.map_none]; rw [h _ _ hx, h _ _ hy]
  simp only [Sem.run_bind, run_sliceAt_string (h := hT), this, Result.andThen_ok]; rfl
theorem Runs.sliceTo {k : IntKind} {p : Int} {l : List Nat} {j : Nat} (ho : o.op = .slice T x none (some y) none) (hx : E x = some (.string (strOf l))) (hy : E y = some (.int k p)) (hT : P.underlying T = some .string) (hp : p = (j : Int)) (hj : j ≤ l.length) : Runs P E o w (.string (strOf (l.take j))) w := fun ρ h => by
  subst hp
  have := run_slice_string_h (P := P) w T (strOf l) hT k (j : Int) (by omega) (by rw [strOf_size]; omega)
  rw [Int.toNat_natCast, strOf_extract, List.drop_zero] at this
  unfold execOp; simp only [ho, Option.map_some, Option.map_none]; rw [h _ _ hx, h _ _ hy]
  simp only [Sem.run_bind, run_sliceAt_string (h := hT), this, Result.andThen_ok]; rfl
theorem Runs.sliceAtL {k k' : IntKind} {p q : Int} {l : List Nat} {i j : Nat} (ho : o.op = .slice T x (some y) (some z) none) (hx : E x = some (.string (strOf l))) (hy : E y = some (.int k p)) (hz : E z = some (.int k' q)) (hT : P.underlying T = some .string) (hp : p = (i : Int)) (hq : q = (j : Int)) (hi : i ≤ j) (hj : j ≤ l.length) : Runs P E o w (.string (strOf ((l.take j).drop i))) w := fun ρ h => by
  subst hp hq
  have := run_slice_string (P := P) w T (strOf l) k k' (i : Int) (j : Int) hT (by omega) (by omega) (by rw [strOf_size]; omega)
  rw [Int.toNat_natCast, Int.toNat_natCast, strOf_extract] at this
  unfold execOp; simp only [ho, Option.map_some, Option.map_none]; rw [h _ _ hx, h _ _ hy, h _ _ hz]
  simp only [Sem.run_bind, run_sliceAt_string (h := hT), this, Result.andThen_ok]; rfl
theorem Runs.addL {a b : List Nat} (ho : o.op = .binOp .add T x y T') (hx : E x = some (.string (strOf a))) (hy : E y = some (.string (strOf b))) (hs : a.length + b.length ≤ 9223372036854775807) : Runs P E o w (.string (strOf (a ++ b))) w :=
  (Runs.addS ho hx hy (by rw [strOf_size, strOf_size]; exact hs)).cast (by rw [strOf_append])
theorem Runs.eqlL {a b : List Nat} (ho : o.op = .binOp .eql T x y T') (hx : E x = some (.string (strOf a))) (hy : E y = some (.string (strOf b))) (ha : ∀ x ∈ a, x < 256) (hb : ∀ x ∈ b, x < 256) : Runs P E o w (.bool (decide (a = b))) w :=
  (Runs.eqlS ho hx hy).cast (by rw [strOf_beq ha hb])
theorem Runs.neqL {a b : List Nat} (ho : o.op = .binOp .neq T x y T') (hx : E x = some (.string (strOf a))) (hy : E y = some (.string (strOf b))) (ha : ∀ x ∈ a, x < 256) (hb : ∀ x ∈ b, x < 256) : Runs P E o w (.bool (decide (a ≠ b))) w :=
  (Runs.neqS ho hx hy).cast (by rw [strOf_beq ha hb]; by_cases h : a = b <;> simp [h])
theorem Runs.lenL {t : TypeId} {l : List Nat} (ho : o.op = .call { callee := .builtin .len, args := #[x], argTypes := #[t] }) (hx : E x = some (.string (strOf l))) (hT : P.underlying t = some .string) : Runs P E o w (.int .i64 (l.length : Int)) w :=
  (Runs.lenS ho hx hT).cast (by rw [strOf_size])
end
section
variable {P : Program} {ops : Array Oper} {Q : Exit → Act → World → Prop} {rest : List Oper} {E : Operand → Option Value} {o : Oper} {n d : Nat} {F : List (Nat × Value)} {w w' : World} {v : Value} {x y z : Operand} {T T' : TypeId}
theorem Post.end3 {fn : Func} {R : Ending → World → Prop} {t u s : Nat} {v' v'' : Value} {e : Exit} (hr : fn.results = #[.tmp t, .tmp u, .tmp s]) (hl : look F t = some v) (hl' : look F u = some v') (hl'' : look F s = some v'') (he : e = .ret ∨ e = .normal) (h : R (.returned (.tuple #[v, v', v''])) w) : Post (bodyPost P fn R) e n F w :=
  Post.end_ (fun a ha => by rw [results_tmp3 hr]; simp [ha.slot t v hl, ha.slot u v' hl', ha.slot s v'' hl'']) he h
end
section
variable {P : Program} {ops : Array Oper} {Q : Exit → Act → World → Prop} {rest : List Oper} {E : Operand → Option Value} {o : Oper} {n d : Nat} {F : List (Nat × Value)} {w w' : World} {v : Value} {x y z : Operand} {T T' : TypeId}
variable [Inhabited (List Deferred)]
/-- A text as bytes: a new block. -/
structure NewB (w w' : World) (g : Nat) (l : List Nat) : Prop where
  ge : w.heap.size ≤ g
  lt : g < w'.heap.size
  below : Below w.heap.size w w'
  reads : Reads w' w'.heap.size 1 (some ⟨g, 0, none⟩) l.length (Bt l)
theorem Seq.convSB {e : TypeId} {l : List Nat} (ho : o.op = .convert T T' x) (hx : evF F x = some (.string (strOf l))) (hS : P.underlying T = some .string) (hT : P.underlying T' = some (.slice e)) (he : P.underlying e = some (.int .u8)) (hl : ∀ x ∈ l, x < 256)
    (hg : o.guard = none) (hd : o.dst = some d) (hn : Nat.blt d n = true)
    (h : ∀ g c w', l.length ≤ c → NewB w w' g l → Seq P ops Q rest n ((d, .slice (some ⟨g, 0, none⟩) l.length c) :: F) w') : Seq P ops Q (o :: rest) n F w := by
  have hrun := run_bytes_of_string (P := P) w T T' e (strOf l) hS hT he
  generalize hc : grownCap w (strOf l).size 0 e = c at hrun
  have hcl : l.length ≤ c := by
    rw [← hc, ← strOf_size]
    unfold grownCap
    exact Nat.le_add_right _ _
  rw [strOf_size] at hrun
  refine Seq.val (w' := w.drew.alloc (.cells (bytesRow (strOf l) c) e ((bytesRow (strOf l) c).size, (bytesRow (strOf l) c).size + 1))) (fun ρ hρ => ?_) hg hd hn (h w.heap.size c _ hcl ⟨Nat.le_refl _, ?_, ?_, ?_⟩)
  · unfold execOp
    simp only [ho]; rw [hρ _ _ hx]
    simp only [Sem.run_bind, hrun, Result.andThen_ok]; rfl
  · show w.heap.size < (w.heap.push _).size
    rw [Array.size_push]; omega
  · exact ((Below.refl w.heap.size w).drewN 1).alloc (Nat.le_refl _) _
  · refine ⟨by rw [length_Bt]; omega, fun _ => ⟨_, rfl, (show w.heap.size < (w.heap.push _).size by rw [Array.size_push]; omega), fun j u hu => ?_⟩⟩
    have hplain : (⟨w.heap.size, 0, none⟩ : Addr).add j = ⟨w.heap.size, j, none⟩ := by unfold Addr.add; split <;> simp_all
    rw [hplain, cell_of_row _ _ _ _ _ _ (show (w.heap.push _)[w.heap.size]? = some _ from Array.getElem?_push_size)]
    rw [get_Bt] at hu
    cases hlj : l[j]? with
    | none => rw [hlj] at hu; cases hu
    | some b =>
      rw [hlj] at hu
      injection hu with hu
      subst hu
      have hj : j < l.length := (List.getElem?_eq_some_iff.1 hlj).1
      have hj2 : j < (strOf l).data.size := by show j < (strOf l).size; rw [strOf_size]; exact hj
      rw [bytesRow_at _ _ j hj2]
      have e : (strOf l).data[j] = UInt8.ofNat b := by
        have := strOf_get hlj
        rw [getElem?_pos (strOf l) j (by rw [strOf_size]; exact hj)] at this
        exact Option.some.inj this
      rw [e, ofNat_toNat (hl b (List.mem_of_getElem? hlj))]
end
end Go.Proofs.Ytijaldpmpjapiaa
namespace Go.Proofs.Ytijaldpmpjapiaa
open Go.RowKit
variable [Inhabited (List Deferred)]

/-- A place in the chain; how much of it is done. -/
def posC : List Nat → Nat → Option Nat
  | [], _ => none
  | x :: r, k => bif Nat.beq x k then some 0 else (match posC r k with | some c => some (c + 1) | none => none)
def cntC (S : Nat → Bool) : List Nat → Nat
  | [] => 0
  | c :: r => bif S c then cntC S r + 1 else 0
def updC (S : Nat → Bool) (i : Nat) : Nat → Bool := fun j => if j = i then true else S j
def chkChain (ops : List Oper) : List Nat → Bool
  | [] => true
  | a :: r => (match r with
    | [] => true
    | b :: _ => (match ops[b]? with | some o => memB (direct o) a | none => false)) && chkChain ops r
def nextC (CH : List Nat) (k c : Nat) : Nat := match posC CH k with | some _ => c + 1 | none => c
theorem cntC_none {S : Nat → Bool} : ∀ {CH : List Nat}, (∀ c ∈ CH, S c = false) → cntC S CH = 0
  | [], _ => rfl
  | c :: r, h => by unfold cntC; rw [h c List.mem_cons_self]; rfl
theorem cntC_all {S : Nat → Bool} : ∀ {CH : List Nat}, (∀ c ∈ CH, S c = true) → cntC S CH = CH.length
  | [], _ => rfl
  | c :: r, h => by unfold cntC; rw [h c List.mem_cons_self, cond_true, cntC_all (fun c hc => h c (List.mem_cons_of_mem _ hc))]; rfl
section
variable {ops : List Oper} {S : Nat → Bool} {i : Nat} {o : Oper}
theorem chain_back (hoi : ops[i]? = some o) (hdc : ∀ i o, ops[i]? = some o → S i = true → ∀ x ∈ direct o, S x = true) (hd : ∀ x ∈ direct o, S x = true) : ∀ (r : List Nat) (a c : Nat), chkChain ops (a :: r) = true → posC r i = some c → S a = true
  | [], a, c, _, h => by cases h
  | b :: r, a, c, hch, hp => by
    unfold chkChain at hch
    simp only [Bool.and_eq_true] at hch
    obtain ⟨h1, h2⟩ := hch
    cases hob : ops[b]? with
    | none => rw [hob] at h1; cases h1
    | some ob =>
      rw [hob] at h1
      unfold posC at hp
      cases hb : Nat.beq b i with
      | true =>
        obtain rfl := Nat.eq_of_beq_eq_true hb
        rw [hoi] at hob
        obtain rfl : o = ob := by injection hob
        exact hd a (memB_spec h1)
      | false =>
        rw [hb, cond_false] at hp
        cases hr : posC r i with
        | none => rw [hr] at hp; cases hp
        | some c' => exact hdc b ob hob (chain_back hoi hdc hd r b c' h2 hr) a (memB_spec h1)
theorem cntC_spec (hoi : ops[i]? = some o) (hdc : ∀ i o, ops[i]? = some o → S i = true → ∀ x ∈ direct o, S x = true) (hd : ∀ x ∈ direct o, S x = true) (hS : S i = false) : ∀ {CH : List Nat}, chkChain ops CH = true →
    (∀ c, posC CH i = some c → cntC S CH = c) ∧ cntC (updC S i) CH = nextC CH i (cntC S CH)
  | [], _ => ⟨fun c h => (by cases h), rfl⟩
  | a :: r, hch => by
    have hch' := hch
    unfold chkChain at hch
    simp only [Bool.and_eq_true] at hch
    obtain ⟨h1, h2⟩ := hch
    obtain ⟨ih1, ih2⟩ := cntC_spec hoi hdc hd hS h2
    by_cases hai : a = i
    · subst hai
      have hp : posC (a :: r) a = some 0 := by unfold posC; rw [Nat.beq_refl]; rfl
      have h0 : cntC S (a :: r) = 0 := by unfold cntC; rw [hS]; rfl
      refine ⟨fun c hc => by rw [hp] at hc; injection hc with hc; rw [h0, hc], ?_⟩
      unfold nextC
      rw [hp, h0]
      unfold cntC
      have : updC S a a = true := by unfold updC; simp
      rw [this, cond_true]
      have hz : cntC (updC S a) r = 0 := by
        cases r with
        | nil => rfl
        | cons b r' =>
          simp only at h1
          cases hob : ops[b]? with
          | none => rw [hob] at h1; cases h1
          | some ob =>
            rw [hob] at h1
            have hSb : S b = false := by
              cases hSb : S b with
              | false => rfl
              | true => have := hdc b ob hob hSb a (memB_spec h1); rw [hS] at this; cases this
            have hba : b ≠ a := by
              rintro rfl
              rw [hoi] at hob
              obtain rfl : o = ob := by injection hob
              have := hd b (memB_spec h1)
              rw [hS] at this; cases this
            unfold cntC
            have : updC S a b = false := by unfold updC; rw [if_neg hba]; exact hSb
            rw [this]; rfl
      rw [hz]
    · have hb : Nat.beq a i = false := by
        cases h : Nat.beq a i with
        | false => rfl
        | true => exact absurd (Nat.eq_of_beq_eq_true h) hai
      have hu : updC S i a = S a := by unfold updC; rw [if_neg hai]
      cases hr : posC r i with
      | none =>
        have hp : posC (a :: r) i = none := by unfold posC; rw [hb, cond_false, hr]
        refine ⟨fun c hc => (by rw [hp] at hc; cases hc), ?_⟩
        unfold nextC at ih2 ⊢
        rw [hr] at ih2
        rw [hp]
        show cntC (updC S i) (a :: r) = cntC S (a :: r)
        unfold cntC
        rw [hu, ih2]
      | some c' =>
        have hp : posC (a :: r) i = some (c' + 1) := by unfold posC; rw [hb, cond_false, hr]
        have hSa := chain_back hoi hdc hd r a c' hch' hr
        have hc1 := ih1 c' hr
        have e1 : cntC S (a :: r) = c' + 1 := by
          show (bif S a then cntC S r + 1 else 0) = c' + 1
          rw [hSa, cond_true, hc1]
        refine ⟨fun c hc => by rw [hp] at hc; injection hc with hc; rw [e1, hc], ?_⟩
        unfold nextC at ih2 ⊢
        rw [hr] at ih2
        rw [hp, e1]
        show (bif updC S i a then cntC (updC S i) r + 1 else 0) = _
        rw [hu, hSa, cond_true, ih2, hc1]
end

section
variable (P : Program) (ops : Array Oper) (Q : Exit → Act → World → Prop) (n : Nat) (F0 : List (Nat × Value)) (G : World → World → Prop) (w0 : World) (CH : List Nat) (J : Nat → World → Prop)
def StepJ (k : Nat) (Γ : Env) (o : Oper) (f : Fact) : Prop := ∀ a w c, a.tmps.size = n → G w0 w → J c w → (∀ c', posC CH k = some c' → c = c') → Facts Γ (· ∈ direct o) a w → (∀ t v, look F0 t = some v → a.tmps[t]? = some v) →
  if Region.wanted o (yielded ops a.tmps) then o.wp P a w (fun a' w' => ∃ u, a' = a.put o.dst u ∧ G w w' ∧ f.holds u w' ∧ J (nextC CH k c) w') Q else f.holds undef w ∧ J (nextC CH k c) w
def DrJ (L : List Nat) (B : Env → Prop) : Nat → List Oper → Env → Prop
  | _, [], Γ => B Γ
  | k, o :: r, Γ => ∃ f, Fact.Stable G f ∧ StepJ P ops Q n F0 G w0 CH J k Γ o f ∧ (memB L k = true → Late P ops n F0 G w0 [] (fun _ => True) Γ o f) ∧ DrJ L B (k + 1) r ((k, o.dst, f) :: Γ)
end

section
variable {P : Program} {ops : Array Oper} {Q : Exit → Act → World → Prop} {n : Nat} {F0 : List (Nat × Value)} {G : World → World → Prop} {w0 : World} {CH : List Nat} {J : Nat → World → Prop}
theorem DrJ.out {L : List Nat} {B : Env → Prop} : ∀ (l : List Oper) (k : Nat) (Γ : Env), (∀ j, k ≤ j → Env.find Γ j = none) → DrJ P ops Q n F0 G w0 CH J L B k l Γ →
    ∃ Γ', B Γ' ∧ (∀ j, j < k → Env.find Γ' j = Env.find Γ j) ∧ (∀ j, k + l.length ≤ j → Env.find Γ' j = none) ∧
      ∀ i o, l[i]? = some o → ∃ f Γi, Env.find Γ' (k + i) = some (o.dst, f) ∧ Fact.Stable G f ∧ StepJ P ops Q n F0 G w0 CH J (k + i) Γi o f ∧ (memB L (k + i) = true → Late P ops n F0 G w0 [] (fun _ => True) Γi o f) ∧ ∀ j, j < k + i → Env.find Γi j = Env.find Γ' j
  | [], k, Γ, hk, h => ⟨Γ, h, fun _ _ => rfl, fun j hj => hk j (by simpa using hj), fun i o ho => by simp at ho⟩
  | o :: r, k, Γ, hk, h => by
    obtain ⟨f, hs, hstep, hlate, hr⟩ := h
    have hne : ∀ j, j ≠ k → Env.find ((k, o.dst, f) :: Γ) j = Env.find Γ j := fun j hj => by
      show (bif Nat.beq k j then some (o.dst, f) else Env.find Γ j) = _
      cases hb : Nat.beq k j with
      | true => exact absurd (Nat.eq_of_beq_eq_true hb).symm hj
      | false => rfl
    have heq : Env.find ((k, o.dst, f) :: Γ) k = some (o.dst, f) := by
      show (bif Nat.beq k k then some (o.dst, f) else Env.find Γ k) = _
      rw [Nat.beq_refl]; rfl
    obtain ⟨Γ', h1, h2, h3, h4⟩ := DrJ.out r (k + 1) _ (fun j hj => by rw [hne j (by omega)]; exact hk j (by omega)) hr
    refine ⟨Γ', h1, fun j hj => by rw [h2 j (by omega), hne j (by omega)], fun j hj => h3 j (by simp at hj; omega), fun i o' ho => ?_⟩
    cases i with
    | zero =>
      obtain rfl : o = o' := by simpa using ho
      exact ⟨f, Γ, by rw [Nat.add_zero, h2 k (by omega), heq], hs, by rw [Nat.add_zero]; exact hstep, by rw [Nat.add_zero]; exact hlate, fun j hj => by rw [h2 j (by omega), hne j (by omega)]⟩
    | succ i =>
      obtain ⟨f', Γi, a1, a2, a3, al, a4⟩ := h4 i o' (by simpa using ho)
      exact ⟨f', Γi, by rw [show k + (i + 1) = k + 1 + i from by omega]; exact a1, a2, by rw [show k + (i + 1) = k + 1 + i from by omega]; exact a3, by rw [show k + (i + 1) = k + 1 + i from by omega]; exact al, fun j hj => a4 j (by omega)⟩

theorem wp_drawJ {id : Nat} (L : List Nat) {init tail : List Oper} (hLC : ∀ i, memB L i = true → posC CH i = none) (hCH : chkChain init CH = true) (hCl : ltAll init.length CH = true) (hQ : L = [] ∨ ∀ c (a : Act) d v w, Q (.panic c) (a.put d v) w → Q (.panic c) a w) (hm : P.follows .mixedOrders = true) (hops : ops = (init ++ tail).toArray) (hchk : chkAll n (keysOf F0) L init tail = true) (Gt : ∀ a b c, G a b → G b c → G a c) (Gr : ∀ w, G w w)
    {w : World} (hw0 : w0 = { w with drawn := w.drawn + 1 }) (hJ0 : J 0 w0) (h : DrJ P ops Q n F0 G w0 CH J L (FinX P ops Q n F0 G w0 tail [] (fun w => J CH.length w)) 0 init []) {a : Act} (ha : Fr n F0 a) : (Code.region id ops true).wp P Q a w := by
  refine wp_region_any hm ?_
  rw [← hw0]
  simp only [chkAll, Bool.and_eq_true] at hchk
  obtain ⟨⟨⟨hc1, hc2⟩, hcL⟩, hcl⟩ := hchk
  have hLlt : ∀ i, memB L i = true → i < init.length := fun i hi => ltAll_spec hcL i (memB_spec hi)
  have c1 := chkInit_spec hc1
  have hsz : ops.size = init.length + tail.length := by rw [hops]; simp
  have hat : ∀ i, i < init.length → ops[i]? = init[i]? := fun i hi => by rw [hops]; simp [List.getElem?_append_left hi]
  have hat2 : ∀ r, ops[init.length + r]? = tail[r]? := fun r => by rw [hops]; simp [List.getElem?_append_right]
  obtain ⟨Γ, hfin, -, hnone, hall⟩ := DrJ.out init 0 [] (fun _ _ => rfl) h
  -- the tail's edges
  have t0 : ∀ o, tail[0]? = some o → ∀ x ∈ direct o, x < init.length := by
    intro o ho
    cases tail with
    | nil => simp at ho
    | cons o1 r =>
      obtain rfl : o1 = o := by simpa using ho
      simp only [Bool.and_eq_true] at hc2
      exact ltAll_spec hc2.1.1
  have ts : ∀ i o, tail[i + 1]? = some o → (∀ x ∈ direct o, x < init.length + 1 + i) ∧ init.length + 1 + i - 1 ∈ direct o := by
    intro i o ho
    cases tail with
    | nil => simp at ho
    | cons o1 r =>
      simp only [Bool.and_eq_true] at hc2
      exact chkTail_spec hc2.2 i o (by simpa using ho)
  have tm : ∀ o, tail[0]? = some o → ∀ j, j < init.length → memB L j = false → ∃ (i : Nat) (o' : Oper), j < i ∧ i ≤ init.length ∧ ops[i]? = some o' ∧ j ∈ direct o' ∧ memB L i = false := by
    intro o ho j hj hjL
    cases tail with
    | nil => simp at ho
    | cons o1 r =>
      simp only [Bool.and_eq_true] at hc2
      obtain ⟨i, o', h1, h2, h3, h4⟩ := chkMeet_spec hc2.1.2 j hj (by rw [Nat.zero_add]; exact hjL)
      rw [Nat.zero_add] at h3 h4
      have hi : i < (init ++ [o1]).length := (List.getElem?_eq_some_iff.1 h2).1
      simp at hi
      refine ⟨i, o', h1, by omega, ?_, h3, h4⟩
      rcases Nat.lt_or_ge i init.length with hlt | hge
      · rw [hat i hlt, ← h2, List.getElem?_append_left hlt]
      · obtain rfl : i = init.length := by omega
        have := hat2 0
        rw [Nat.add_zero] at this
        rw [this, ← h2, List.getElem?_append_right (Nat.le_refl _)]
        simp
  have bothT : ∀ (listed : Array Bool) x, listed.size = ops.size → x < ops.size → listed.getD x true = true → listed.getD x false = true := by
    intro listed x hl hx h
    have hxl : x < listed.size := by omega
    simp [hxl] at h ⊢; exact h
  have hall2 : ∀ (listed : Array Bool) {w : World}, listed.size = ops.size → (∀ i, i < init.length → listed.getD i true = true) → J (cntC (fun j => listed.getD j false) CH) w → J CH.length w := by
    intro listed w hl h hJ
    rw [cntC_all (fun c hc => bothT listed c hl (by have := ltAll_spec hCl c hc; omega) (h c (ltAll_spec hCl c hc)))] at hJ
    exact hJ
  -- the first part
  have key : ∀ (fuel : Nat) (listed : Array Bool) (a : Act) (w : World), listed.size = ops.size → (∀ i o, ops[i]? = some o → listed.getD i false = true → ∀ x ∈ direct o, listed.getD x false = true) → (∀ i, init.length ≤ i → i < ops.size → listed.getD i true = false) →
      a.tmps.size = n → a.defers = default → G w0 w → Facts Γ (fun j => listed.getD j false = true) a w → (∀ t v, look F0 t = some v → a.tmps[t]? = some v) → J (cntC (fun j => listed.getD j false) CH) w → left listed ops.size ≤ fuel → wpAny P .any ops Q fuel listed a w := by
    intro fuel
    induction fuel with
    | zero =>
      intro listed a w hl hdc hts hsize hdef hG hF hs hJw hf
      have hall1 := left_zero (Nat.le_zero.1 hf)
      have hlen : init.length = ops.size := by
        rcases Nat.lt_or_ge init.length ops.size with hh | hh
        · have := hall1 _ hh; rw [hts _ (Nat.le_refl _) hh] at this; cases this
        · omega
      refine phase2 hops t0 ts 0 0 listed a w hl (Nat.zero_le _) (fun i hi => hall1 i (by omega)) (fun i hi hi2 => by omega) (by omega) ?_
      rw [List.drop_zero]
      have hlis : ∀ j d f, Env.find Γ j = some (d, f) → listed.getD j false = true := fun j d f hj => by
        rcases Nat.lt_or_ge j init.length with hh | hh
        · exact bothT listed j hl (by omega) (hall1 j (by omega))
        · rw [hnone j (by omega)] at hj; cases hj
      exact hfin a w hsize hdef hG (hall2 listed hl (fun i hi => hall1 i (by omega)) hJw) (fun j d f hj _ => hF j d f hj (hlis j d f hj)) hs (fun t v ht => by simp [look] at ht)
    | succ fuel ih =>
      intro listed a w hl hdc hts hsize hdef hG hF hs hJw hf
      by_cases hdone : ∀ i, i < init.length → listed.getD i true = true
      · refine phase2 hops t0 ts (fuel + 1) 0 listed a w hl (Nat.zero_le _) (fun i hi => hdone i (by omega)) (fun i hi hi2 => hts i (by omega) hi2) ?_ ?_
        · -- as many are left as the tail has
          have : ∀ k, k ≤ tail.length → left listed (init.length + k) = left listed init.length + k := by
            intro k
            induction k with
            | zero => intro _; rfl
            | succ k ihk =>
              intro hk
              show left listed (init.length + k) + (if listed.getD (init.length + k) true then 0 else 1) = _
              rw [ihk (by omega), hts (init.length + k) (by omega) (by omega)]
              simp; omega
          have := this tail.length (Nat.le_refl _)
          rw [← hsz] at this
          omega
        · rw [List.drop_zero]
          have hlis : ∀ j d f, Env.find Γ j = some (d, f) → listed.getD j false = true := fun j d f hj => by
            rcases Nat.lt_or_ge j init.length with hh | hh
            · exact bothT listed j hl (by omega) (hdone j hh)
            · rw [hnone j (by omega)] at hj; cases hj
          exact hfin a w hsize hdef hG (hall2 listed hl hdone hJw) (fun j d f hj _ => hF j d f hj (hlis j d f hj)) hs (fun t v ht => by simp [look] at ht)
      · -- the least one that has not come up may come up
        have hex : ∃ i, i ∈ Region.ready .any ops listed := by
          have hex0 : ∃ i, i < init.length ∧ listed.getD i true = false := by
            refine Classical.byContradiction fun hno => hdone fun i hi => ?_
            cases hb : listed.getD i true with
            | true => rfl
            | false => exact absurd ⟨i, hi, hb⟩ hno
          have hmin : ∀ m i, i ≤ m → i < init.length → listed.getD i true = false → ∃ j, j < init.length ∧ listed.getD j true = false ∧ ∀ x, x < j → listed.getD x true = true := by
            intro m
            induction m with
            | zero => intro i hi h1 h2; exact ⟨i, h1, h2, fun x hx => by omega⟩
            | succ m ihm =>
              intro i hi h1 h2
              by_cases hx : ∃ x, x < i ∧ listed.getD x true = false
              · obtain ⟨x, hx1, hx2⟩ := hx
                exact ihm x (by omega) (by omega) hx2
              · refine ⟨i, h1, h2, fun x hx1 => ?_⟩
                cases hb : listed.getD x true with
                | true => rfl
                | false => exact absurd ⟨x, hx1, hb⟩ hx
          obtain ⟨i0, hi0, hb0⟩ := hex0
          obtain ⟨j, hj1, hj2, hj3⟩ := hmin i0 i0 (Nat.le_refl _) hi0 hb0
          refine ⟨j, ready_iff.2 ⟨hj2, init[j], by rw [hat j hj1, List.getElem?_eq_getElem hj1], fun x hx => ?_⟩⟩
          have hlt : x < j := by have := (c1 j _ (List.getElem?_eq_getElem hj1)).1 x hx; omega
          exact bothT listed x hl (by omega) (hj3 x hlt)
        -- what one of the first part's operations comes to
        have go : ∀ i o, i < init.length → i ∈ Region.ready .any ops listed → ops[i]? = some o → ∃ f : Fact, (if Region.wanted o (yielded ops a.tmps) = true then o.wp P a w (fun a' w' => ∃ u, a' = a.put o.dst u ∧ G w w' ∧ f.holds u w' ∧ J (cntC (fun j => (listed.setIfInBounds i true).getD j false) CH) w') Q else f.holds undef w ∧ J (cntC (fun j => (listed.setIfInBounds i true).getD j false) CH) w) ∧
            (memB L i = true → (∃ v, f = .eq v ∧ Yields P ops o v a) ∧ J (cntC (fun j => (listed.setIfInBounds i true).getD j false) CH) w) ∧ ∀ u w', G w w' → f.holds u w' → J (cntC (fun j => (listed.setIfInBounds i true).getD j false) CH) w' → wpAny P .any ops Q fuel (listed.setIfInBounds i true) (a.put o.dst u) w' := by
          intro i o hlt hi ho
          obtain ⟨g1, o1, ho1, g2⟩ := ready_iff.1 hi
          rw [ho] at ho1
          obtain rfl : o = o1 := by injection ho1
          have hi' : i < ops.size := (Array.getElem?_eq_some_iff.1 ho).1
          have hoi : init[i]? = some o := by rw [← hat i hlt]; exact ho
          obtain ⟨f, Γi, f1, f2, f3, fl, f4⟩ := hall i o hoi
          rw [Nat.zero_add] at f1 f3 f4 fl
          obtain ⟨d1, d2⟩ := c1 i o hoi
          have hSi : listed.getD i false = false := getD_both g1
          have hupd : (fun j => (listed.setIfInBounds i true).getD j false) = updC (fun j => listed.getD j false) i := by
            funext j
            unfold updC
            by_cases e : i = j
            · subst e; simp [getD_set_self false (show i < listed.size by omega)]
            · rw [getD_set_ne false e]
              rw [if_neg (fun h => e h.symm)]
          have hcnt := cntC_spec (ops := init) (S := fun j => listed.getD j false) (i := i) (o := o) hoi (fun i2 o2 h1 h2 => hdc i2 o2 (by rw [hat i2 (List.getElem?_eq_some_iff.1 h1).1]; exact h1) h2) g2 hSi hCH
          have hx := f3 a w _ hsize hG hJw hcnt.1 (fun j d f' hj hd => hF j d f' (by rw [← f4 j (by have := d1 j hd; omega)]; exact hj) (g2 j hd)) hs
          rw [← hcnt.2, ← hupd] at hx
          have hslot : ∀ u j d f, j ≠ i → Env.find Γ j = some (some d, f) → (a.put o.dst u).tmps[d]? = a.tmps[d]? := by
            intro u j d f hji hj
            rcases Nat.lt_or_ge j init.length with hh | hh
            · have hoj : init[j]? = some init[j] := List.getElem?_eq_getElem hh
              obtain ⟨fj, Γj, q1, -⟩ := hall j _ hoj
              rw [Nat.zero_add, hj] at q1
              injection q1 with q1
              injection q1 with q1 _
              have hdj : init[j].dst = some d := q1.symm
              have hdi : o.dst ≠ some d := fun hdi => (d2 d hdi).2.2.2 j _ hoj hji hdj
              cases hd : o.dst with
              | none => rfl
              | some d0 =>
                have : d0 ≠ d := fun e' => hdi (by rw [hd, e'])
                simp only [Act.put]
                rw [Array.getElem?_setIfInBounds_ne this]
            · rw [hnone j (by omega)] at hj; cases hj
          -- what holds behind it
          have next : ∀ u w', G w w' → f.holds u w' → J (cntC (fun j => (listed.setIfInBounds i true).getD j false) CH) w' → wpAny P .any ops Q fuel (listed.setIfInBounds i true) (a.put o.dst u) w' := by
            intro u w' hG' hu hmk
            refine ih _ _ _ (by simp [hl]) ?_ ?_ ?_ ?_ (Gt _ _ _ hG hG') ?_ ?_ hmk ?_
            · intro i2 o2 h1 h2 x hx2
              by_cases e : i = i2
              · subst e
                rw [ho] at h1
                obtain rfl : o = o2 := by injection h1
                exact getD_set_true (g2 x hx2)
              · rw [getD_set_ne false e] at h2
                exact getD_set_true (hdc i2 o2 h1 h2 x hx2)
            · intro i2 h1 h2
              rw [getD_set_ne true (by omega)]
              exact hts i2 h1 h2
            · cases hd : o.dst <;> simp [Act.put, hsize]
            · cases hd : o.dst <;> simp [Act.put, hdef]
            · intro j d f' hj hjl
              by_cases e : i = j
              · subst e
                rw [f1] at hj
                injection hj with hj
                injection hj with e1 e2
                subst e1 e2
                refine ⟨u, fun t ht => ?_, hu⟩
                have := (d2 t ht).1
                rw [ht]
                simp [Act.put, hsize, this]
              · rw [getD_set_ne false e] at hjl
                obtain ⟨u', h1, h2⟩ := hF j d f' hj hjl
                refine ⟨u', fun t ht => ?_, ?_⟩
                · rcases Nat.lt_or_ge j init.length with hh | hh
                  · have hoj : init[j]? = some init[j] := List.getElem?_eq_getElem hh
                    obtain ⟨fj, Γj, q1, -⟩ := hall j _ hoj
                    rw [Nat.zero_add, hj] at q1
                    injection q1 with q1
                    injection q1 with q1 _
                    have hdj : init[j].dst = some t := by rw [← q1]; exact ht
                    have hdi : o.dst ≠ some t := fun hdi => (d2 t hdi).2.2.2 j _ hoj (fun e' => e e'.symm) hdj
                    cases hd : o.dst with
                    | none => exact h1 t ht
                    | some d0 =>
                      have : d0 ≠ t := fun e' => hdi (by rw [hd, e'])
                      simp only [Act.put]
                      rw [Array.getElem?_setIfInBounds_ne this]
                      exact h1 t ht
                  · rw [hnone j (by omega)] at hj; cases hj
                · have hst : Fact.Stable G f' := by
                    rcases Nat.lt_or_ge j init.length with hh | hh
                    · obtain ⟨fj, Γj, q1, q2, -⟩ := hall j _ (List.getElem?_eq_getElem hh)
                      rw [Nat.zero_add, hj] at q1
                      injection q1 with q1
                      injection q1 with _ q1
                      rw [q1]; exact q2
                    · rw [hnone j (by omega)] at hj; cases hj
                  cases f' with
                  | eq v => exact h2
                  | sat Φ => exact hst u' w w' hG' h2
            · intro t v ht
              cases hd : o.dst with
              | none => exact hs t v ht
              | some d0 =>
                have : d0 ≠ t := fun e' => (d2 d0 hd).2.2.1 (by rw [e']; exact look_keys ht)
                simp only [Act.put]
                rw [Array.getElem?_setIfInBounds_ne this]
                exact hs t v ht
            · have := left_set (listed := listed) (i := i) (by omega) g1 ops.size
              rw [if_pos hi'] at this
              omega
          refine ⟨f, hx, fun hL => ?_, next⟩
          obtain ⟨v, e, hy⟩ := fl hL
          refine ⟨⟨v, e, hy a w hsize hG trivial (fun j d f' hj hd => hF j d f' (by rw [← f4 j (by have := d1 j hd; omega)]; exact hj) (g2 j hd)) hs (fun t v ht => by simp [look] at ht)⟩, ?_⟩
          rw [hupd, hcnt.2]
          unfold nextC
          rw [hLC i hL]
          exact hJw
        by_cases hlate : ∃ i, memB L i = true ∧ i ∈ Region.ready .any ops listed
        · obtain ⟨i, hiL, hi⟩ := hlate
          obtain ⟨g1, o, ho, g2⟩ := ready_iff.1 hi
          obtain ⟨f, -, hl2, next⟩ := go i o (hLlt i hiL) hi ho
          obtain ⟨⟨v, rfl, hy⟩, hJ2⟩ := hl2 hiL
          have hcl' : chkLate (init ++ tail).toArray L = true ∧ noSel (init ++ tail) = true := by
            cases L with
            | nil => cases hiL
            | cons x r => simpa using hcl
          rw [← hops] at hcl'
          have hup : listed.setIfInBounds i true = listed.setIfInBounds i true := rfl
          refine wpAny_first ho (fun j oj cs b hoj => noSel_spec hcl'.2 j oj cs b (by rw [hops] at hoj; simpa using hoj)) (fun c a w h => by rcases hQ with e | hQ; (rw [e] at hiL; cases hiL); exact hQ c a _ _ w h) fuel listed a w (fun j oj hoj hne hun hno => ?_) hi hy (next v w (Gr w) rfl hJ2)
          refine chkLate_spec hcl'.1 i o hiL ho j oj hoj (Ne.symm hne) (fun hm => ?_) (fun hm => ?_)
          · obtain ⟨e, he, hb, h1⟩ := mem_direct.1 hm
            exact hno e he hb h1
          · have := g2 j hm
            rw [getD_both hun] at this
            cases this
        refine ⟨(fun hnil => by obtain ⟨i, hi⟩ := hex; rw [hnil] at hi; cases hi), fun i hi => ?_⟩
        obtain ⟨g1, o, ho, g2⟩ := ready_iff.1 hi
        have hi' : i < ops.size := (Array.getElem?_eq_some_iff.1 ho).1
        have hlt : i < init.length := by
          rcases Nat.lt_or_ge i init.length with hh | hh
          · exact hh
          · exfalso
            apply hdone
            -- then all before it have come up
            have hi0 : i = init.length := by
              rcases Nat.eq_or_lt_of_le hh with e | hgt
              · exact e.symm
              · exfalso
                obtain ⟨q, rfl⟩ : ∃ q, i = init.length + (q + 1) := ⟨i - init.length - 1, by omega⟩
                rw [hat2] at ho
                have h3 := g2 _ (ts q o ho).2
                rw [getD_both (hts (init.length + 1 + q - 1) (by omega) (by omega))] at h3
                cases h3
            subst hi0
            have ho2 : tail[0]? = some o := by have := hat2 0; rw [Nat.add_zero] at this; rw [← this, ho]
            have down : ∀ q j, init.length - j ≤ q → j < init.length → memB L j = false → listed.getD j false = true := by
              intro q
              induction q with
              | zero => intro j h1 h2 _; omega
              | succ q ihq =>
                intro j h1 h2 hjL
                obtain ⟨i2, o2, b1, b2, b3, b4, b5⟩ := tm o ho2 j h2 hjL
                rcases Nat.eq_or_lt_of_le b2 with e | hlt2
                · subst e
                  rw [ho] at b3
                  obtain rfl : o = o2 := by injection b3
                  exact g2 j b4
                · exact hdc i2 o2 b3 (ihq i2 (by omega) hlt2 b5) j b4
            -- and of those that may come late none is left, as it could come up
            have all : ∀ q j, j ≤ q → j < init.length → listed.getD j false = true := by
              intro q
              induction q using Nat.strongRecOn with
              | _ q ihq =>
                intro j hjq hj
                cases hjL : memB L j with
                | false => exact down _ j (Nat.le_refl _) hj hjL
                | true =>
                  cases hun : listed.getD j true with
                  | true => exact bothT listed j hl (by omega) hun
                  | false =>
                    exfalso
                    refine hlate ⟨j, hjL, ready_iff.2 ⟨hun, init[j], by rw [hat j hj, List.getElem?_eq_getElem hj], fun x hx => ?_⟩⟩
                    have hlt : x < j := by have := (c1 j _ (List.getElem?_eq_getElem hj)).1 x hx; omega
                    exact ihq x (by omega) x (Nat.le_refl _) (by omega)
            intro j hj
            exact getD_both' (by omega) (all j j (Nat.le_refl _) hj)
        obtain ⟨f, hx, -, next⟩ := go i o hlt hi ho
        unfold wpOp
        rw [ho]
        simp only
        by_cases hwant : Region.wanted o (yielded ops a.tmps) = true
        · rw [if_pos hwant] at hx ⊢
          exact .inl (Oper.wp_mono (fun a' w' ⟨u, e, h1, h2, h3⟩ => by rw [e]; exact next u w' h1 h2 h3) hx)
        · rw [if_neg hwant] at hx ⊢
          exact next undef w (Gr w) hx.1 hx.2
  have hrep : ∀ i, (Array.replicate ops.size false).getD i false = false := by intro i; by_cases h : i < ops.size <;> simp [h]
  refine key ops.size _ a w0 (by simp) ?_ ?_ ha.size ha.defers (Gr w0) ?_ ha.slot (by rw [cntC_none (fun c _ => hrep c)]; exact hJ0) ?_
  · intro i o _ h0
    rw [hrep] at h0; cases h0
  · intro i _ h2
    simp [h2]
  · intro j d f _ h0
    simp only [hrep] at h0; cases h0
  · have : ∀ k, left (Array.replicate ops.size false) k ≤ k := by
      intro k
      induction k with
      | zero => exact Nat.le_refl _
      | succ k ih => unfold left; split <;> omega
    exact this _

end
section
variable {P : Program} {ops : Array Oper} {Q : Exit → Act → World → Prop} {n : Nat} {F0 : List (Nat × Value)} {G : World → World → Prop} {w0 : World} {CH : List Nat} {J : Nat → World → Prop} {L : List Nat} {B : Env → Prop} {k : Nat} {Γ : Env} {o : Oper} {r : List Oper} {v : Value} {f : Fact} {Φ : Value → World → Prop}
/-- An operation that leaves the world as it is. -/
theorem DJ.val (hp : posC CH k = none) (Gr : ∀ w, G w w) (hu : uniq Γ = true) (hrun : ∀ w, G w0 w → Runs P (evX [] F0 Γ o) o w v w) (hg : o.guard = none) (hr : DrJ P ops Q n F0 G w0 CH J L B (k + 1) r ((k, o.dst, .eq v) :: Γ)) (hl : memB L k = false := by rfl) : DrJ P ops Q n F0 G w0 CH J L B k (o :: r) Γ :=
  ⟨.eq v, trivial, (by
    intro a w c h1 h2 h3 h4 h5 h6
    rw [if_pos (by simp [Region.wanted, hg])]
    unfold Oper.wp
    rw [hrun w h2 a.eval (evX_spec hu h5 h6 (fun t v ht => by cases ht)), Oper.upon_value]
    refine ⟨v, rfl, Gr w, rfl, ?_⟩
    unfold nextC
    rw [hp]
    exact h3), (fun h => by rw [hl] at h; cases h), hr⟩
/-- The same, what it needs of the world being known by the chain's state. -/
theorem DJ.valJ (hp : posC CH k = none) (Gr : ∀ w, G w w) (hu : uniq Γ = true) (hrun : ∀ c w, G w0 w → J c w → Runs P (evX [] F0 Γ o) o w v w) (hg : o.guard = none) (hr : DrJ P ops Q n F0 G w0 CH J L B (k + 1) r ((k, o.dst, .eq v) :: Γ)) (hl : memB L k = false := by rfl) : DrJ P ops Q n F0 G w0 CH J L B k (o :: r) Γ :=
  ⟨.eq v, trivial, (by
    intro a w c h1 h2 h3 h4 h5 h6
    rw [if_pos (by simp [Region.wanted, hg])]
    unfold Oper.wp
    rw [hrun c w h2 h3 a.eval (evX_spec hu h5 h6 (fun t v ht => by cases ht)), Oper.upon_value]
    refine ⟨v, rfl, Gr w, rfl, ?_⟩
    unfold nextC
    rw [hp]
    exact h3), (fun h => by rw [hl] at h; cases h), hr⟩
theorem DJ.late (hp : posC CH k = none) (hl : memB L k = true) (hu : uniq Γ = true) (hrun : ∀ w, Runs P (evX [] F0 Γ o) o w v w) (Gr : ∀ w, G w w) (hg : o.guard = none) (hr : DrJ P ops Q n F0 G w0 CH J L B (k + 1) r ((k, o.dst, .eq v) :: Γ)) : DrJ P ops Q n F0 G w0 CH J L B k (o :: r) Γ :=
  ⟨.eq v, trivial, (by
    intro a w c h1 h2 h3 h4 h5 h6
    rw [if_pos (by simp [Region.wanted, hg])]
    unfold Oper.wp
    rw [hrun w a.eval (evX_spec hu h5 h6 (fun t v ht => by cases ht)), Oper.upon_value]
    refine ⟨v, rfl, Gr w, rfl, ?_⟩
    unfold nextC
    rw [hp]
    exact h3), (fun _ => ⟨v, rfl, fun a w _ _ _ h4 h5 h6 => .inl ⟨by simp [Region.wanted, hg], fun w' => hrun w' a.eval (evX_spec hu h4 h5 h6)⟩⟩), hr⟩
/-- A call of the chain. -/
theorem DJ.chain {fn : FuncId} {args : Array Value} (c : Nat) (hp : posC CH k = some c) (hu : uniq Γ = true) (he : ∀ w, Enters P (evX [] F0 Γ o) o w fn args) (hg : o.guard = none) (hc : ∀ w, G w0 w → J c w → Calls P fn args w fun e w' => e = .returned v ∧ G w w' ∧ J (c + 1) w')
    (hr : DrJ P ops Q n F0 G w0 CH J L B (k + 1) r ((k, o.dst, .eq v) :: Γ)) (hl : memB L k = false := by rfl) : DrJ P ops Q n F0 G w0 CH J L B k (o :: r) Γ :=
  ⟨.eq v, trivial, (by
    intro a w c2 h1 h2 h3 h4 h5 h6
    rw [if_pos (by simp [Region.wanted, hg])]
    obtain rfl := h4 c hp
    unfold Oper.wp
    rw [he w a.eval (evX_spec hu h5 h6 (fun t v ht => by cases ht)), Oper.upon_enter]
    exact (hc w h2 h3).mono fun e w' ⟨e1, e2, e3⟩ => by
      subst e1
      refine ⟨v, rfl, e2, rfl, ?_⟩
      unfold nextC
      rw [hp]
      exact e3), (fun h => by rw [hl] at h; cases h), hr⟩
/-- An operation that makes memory, or a call that leaves all there is. -/
theorem DJ.of (hp : posC CH k = none) (hGG : ∀ w w', Grow w w' → G w w') (hJ : ∀ c w w', Grow w w' → J c w → J c w') (hs : Fact.Stable G f) (h : ∀ w, G w0 w → DrW P ops Q n F0 Grow w L (fun Γ' => Γ' = (k, o.dst, f) :: Γ) k [o] Γ)
    (hr : DrJ P ops Q n F0 G w0 CH J L B (k + 1) r ((k, o.dst, f) :: Γ)) (hl : memB L k = false := by rfl) : DrJ P ops Q n F0 G w0 CH J L B k (o :: r) Γ :=
  ⟨f, hs, (by
    intro a w c h1 h2 h3 h4 h5 h6
    obtain ⟨f', -, hst, -, hB⟩ := h w h2
    have hf : f' = f := by
      have hB' : (k, o.dst, f') :: Γ = (k, o.dst, f) :: Γ := hB
      injection hB' with hB' _
      injection hB' with _ hB'
      injection hB'
    subst hf
    have hx := hst a w h1 (Grow.refl w) trivial h5 h6 (fun t v ht => by cases ht)
    have hn : nextC CH k c = c := by unfold nextC; rw [hp]
    rw [hn]
    split
    · rename_i hw
      rw [if_pos hw] at hx
      exact Oper.wp_mono (fun a' w' ⟨u, e, g1, g2⟩ => ⟨u, e, hGG _ _ g1, g2, hJ _ _ _ g1 h3⟩) hx
    · rename_i hw
      rw [if_neg hw] at hx
      exact ⟨hx, h3⟩), (fun h => by rw [hl] at h; cases h), hr⟩
theorem DJ.nil (h : B Γ) : DrJ P ops Q n F0 G w0 CH J L B k [] Γ := h
/-- A region that draws, with a chain. -/
theorem Cd.drawJ (m : Nat) {id : Nat} {l : List Oper} {w : World} (hm : P.follows .mixedOrders = true) (L CH : List Nat) (hLC : ∀ i, memB L i = true → posC CH i = none) (hCH : chkChain (l.take m) CH = true) (hCl : ltAll (l.take m).length CH = true) (hQ : L = [] ∨ ∀ c (a : Act) d v w, Q (.panic c) (a.put d v) w → Q (.panic c) a w) (hchk : chkAll n (keysOf F0) L (l.take m) (l.drop m) = true) (G : World → World → Prop) (Gr : ∀ w, G w w) (Gt : ∀ a b c, G a b → G b c → G a c) (J : Nat → World → Prop)
    (h : ∀ w0, Below w.heap.size w w0 → w0.heap.size = w.heap.size → J 0 w0 ∧ DrJ P l.toArray Q n F0 G w0 CH J L (FinX P l.toArray Q n F0 G w0 (l.drop m) [] (fun w => J CH.length w)) 0 (l.take m) []) : Cd P (.region id l.toArray true) Q n F0 w := fun _ ha =>
  wp_drawJ L hLC hCH hCl hQ hm (by rw [List.take_append_drop]) hchk Gt Gr rfl (h { w with drawn := w.drawn + 1 } ⟨rfl, rfl, rfl, Nat.le_refl _, fun _ _ => rfl⟩ rfl).1 (h { w with drawn := w.drawn + 1 } ⟨rfl, rfl, rfl, Nat.le_refl _, fun _ _ => rfl⟩ rfl).2 ha
end
end Go.Proofs.Ytijaldpmpjapiaa
namespace Go.Proofs.Ytijaldpmpjapiaa
open Go.RowKit
variable [Inhabited (List Deferred)]

section
variable {P : Program} {E : Operand → Option Value} {o : Oper} {w : World} {T : TypeId}
theorem Runs.sliceLit {ps : Array (Nat × Operand)} {m e s : Nat} {vs : List Value} {z : Value} (ho : o.op = .buildSlice T m ps) (hx : evP E ps.toList = some (enumF 0 vs)) (hm : vs.length = m) (hT : P.underlying T = some (.slice e)) (hs : sizeIs P e s = true) (hz : zeroIs P e = some (some z)) (hs0 : 0 < s) (hsm : m * s ≤ 16777216) (hvs : sizes s vs) :
    Runs P E o w (.slice (some ⟨w.heap.size, 0, none⟩) m m) (w.alloc (.cells (flatC vs).toArray e)) := by
  obtain ⟨i, hi, hsz⟩ := sizeIs_spec hs
  have hz' : i.zero = some z := by unfold zeroIs at hz; rw [hi] at hz; injection hz
  subst hm
  rcases Nat.eq_zero_or_pos vs.length with h0 | h0
  · have : vs = [] := List.eq_nil_of_length_eq_zero h0
    subst this
    refine Runs.buildSlice ho hx ?_
    simp [Instr.buildSlice, run_underlying hT, sizeOf, typeInfo, hi, enumF, Instr.fill, newRow, flatC]
    have : Array.map (fun (_ : Nat) => (default : Value)) (Array.range 0) = #[] := Array.eq_empty_of_size_eq_zero (by simp)
    rw [this]
  · refine Runs.buildSlice ho hx (run_buildSlice w T e vs.length _ _ i z hT hi hz' (by rw [hsz]; omega) (by rw [hsz]; exact Nat.ne_of_gt (Nat.mul_pos h0 hs0)) ?_)
    rw [hsz, enumF_zip, ← flatC_eq]
    exact Great.fill_whole hs0 vs _ (sizes_spec hvs) (by simp)
end
theorem Dr.slice {P : Program} {ops : Array Oper} {Q : Exit → Act → World → Prop} {n : Nat} {F0 : List (Nat × Value)} {w0 : World} {Γ : Env} {o : Oper} {r : List Oper} {B : Env → Prop} {L : List Nat} {k T : Nat} {ps : Array (Nat × Operand)} {m e s : Nat} {vs : List Value} {z : Value} (hu : uniq Γ = true) (ho : o.op = .buildSlice T m ps) (hx : evP (evX [] F0 Γ o) ps.toList = some (enumF 0 vs)) (hm : vs.length = m) (hT : P.underlying T = some (.slice e)) (hs : sizeIs P e s = true) (hz : zeroIs P e = some (some z)) (hs0 : 0 < s) (hsm : m * s ≤ 16777216) (hvs : sizes s vs) (hg : o.guard = none)
    (hr : DrW P ops Q n F0 Grow w0 L B (k + 1) r ((k, o.dst, .sat (NewSl w0.heap.size m e (flatC vs).toArray)) :: Γ)) (hl : memB L k = false := by rfl) : DrW P ops Q n F0 Grow w0 L B k (o :: r) Γ :=
  Dr.make hu NewSl.stable hg (fun w hG => ⟨_, _, Runs.sliceLit ho hx hm hT hs hz hs0 hsm hvs, (new_of w _ _).below, _, rfl, (new_of w _ _).blk, hG.size⟩) hr hl
theorem DJ.slice {P : Program} {ops : Array Oper} {Q : Exit → Act → World → Prop} {n : Nat} {F0 : List (Nat × Value)} {G : World → World → Prop} {w0 : World} {CH : List Nat} {J : Nat → World → Prop} {Γ : Env} {o : Oper} {r : List Oper} {B : Env → Prop} {L : List Nat} {k T : Nat} {ps : Array (Nat × Operand)} {m e s : Nat} {vs : List Value} {z : Value} (B0 : Nat) (hp : posC CH k = none) (hGG : ∀ w w', Grow w w' → G w w') (hGs : ∀ w, G w0 w → B0 ≤ w.heap.size) (hJ : ∀ c w w', Grow w w' → J c w → J c w') (hst : ∀ v w w', G w w' → NewSl B0 m e (flatC vs).toArray v w → NewSl B0 m e (flatC vs).toArray v w')
    (hu : uniq Γ = true) (ho : o.op = .buildSlice T m ps) (hx : evP (evX [] F0 Γ o) ps.toList = some (enumF 0 vs)) (hm : vs.length = m) (hT : P.underlying T = some (.slice e)) (hs : sizeIs P e s = true) (hz : zeroIs P e = some (some z)) (hs0 : 0 < s) (hsm : m * s ≤ 16777216) (hvs : sizes s vs) (hg : o.guard = none)
    (hr : DrJ P ops Q n F0 G w0 CH J L B (k + 1) r ((k, o.dst, .sat (NewSl B0 m e (flatC vs).toArray)) :: Γ)) (hl : memB L k = false := by rfl) : DrJ P ops Q n F0 G w0 CH J L B k (o :: r) Γ :=
  DJ.of (f := .sat (NewSl B0 m e (flatC vs).toArray)) hp hGG hJ hst (fun w hG => Dr.make hu NewSl.stable hg (fun w2 hG2 => ⟨_, _, Runs.sliceLit ho hx hm hT hs hz hs0 hsm hvs, (new_of w2 _ _).below, _, rfl, (new_of w2 _ _).blk, Nat.le_trans (hGs w hG) hG2.size⟩) rfl hl) hr hl
end Go.Proofs.Ytijaldpmpjapiaa
namespace Go.Proofs.Ytijaldpmpjapiaa
open Go.RowKit

section
variable {P : Program} {ops : Array Oper} {Q : Exit → Act → World → Prop} {rest : List Oper} {o : Oper} {n : Nat} {F : List (Nat × Value)} {w : World}
/-- A deferred call of a function by its name. -/
def dcallF (g : FuncId) (args : List Value) : Deferred := { target := .fn (.func g) #[], args := args.toArray }
theorem Seq.defer_ {g : FuncId} {args : Array Operand} {ts : Array TypeId} {vs : List Value} (ho : o.op = .defer { callee := .value (.func g), args := args, argTypes := ts }) (hx : evL (evF F) args.toList = some vs) (hg : o.guard = none) (hd : o.dst = none)
    (h : ∀ I : Inhabited (List Deferred), I.default = [dcallF g vs] → @Seq I P ops Q rest n F w) : Seq P ops Q (o :: rest) n F w := by
  intro a ha
  refine wpList_plain hg fun K hK => ?_
  have hargs : args.map a.eval = vs.toArray := by
    apply Array.ext'
    rw [Array.toList_map, evL_map ha.ev hx]
  have hr : (execOp a.eval o).run P w = .ok (.defer (dcallF g vs)) w := by
    unfold execOp
    have hf : a.eval (.func g) = .func (.func g) #[] #[] := rfl
    simp only [ho, resolve, hf, Deferred.ofValue, hargs, Sem.run_bind, Sem.run_pure, Result.andThen_ok]
    simp [dcallF]
  unfold Oper.wp
  rw [hr, Oper.upon_defer, hd]
  have hD : dcallF g vs :: a.defers = [dcallF g vs] := by rw [ha.defers]; rfl
  exact hK _ _ (h ⟨[dcallF g vs]⟩ rfl _ (@Fr.mk ⟨[dcallF g vs]⟩ n F _ ha.size hD ha.slot))
theorem Calls.startD {f : FuncId} {fn : Func} {c : Code} {args : List Value} {R : Ending → World → Prop} (n : Nat) (hf : P.funcs[f]? = some fn) (hb : fn.body = some c) (hn : fn.ntmps = n) (hle : Nat.ble args.length n = true)
    (h : Cd P c (bodyPostD P fn R) n (startF 0 args) w) : Calls P f args.toArray w R := by
  have hle' := Nat.le_of_ble_eq_true hle
  refine calls_of_wp_defers hf hb (h _ ⟨?_, rfl, fun t v ht => ?_⟩)
  · show (args.toArray ++ Array.replicate (fn.ntmps - args.toArray.size) undef).size = n
    simp; omega
  · obtain ⟨j, rfl, hj⟩ := look_startF args 0 t v ht
    have hlt : j < args.length := (List.getElem?_eq_some_iff.1 hj).1
    show (args.toArray ++ Array.replicate (fn.ntmps - args.toArray.size) undef)[0 + j]? = some v
    rw [Nat.zero_add, Array.getElem?_append_left (by simpa using hlt)]
    simpa using hj
/-- The same body, called when another function leaves. -/
theorem CallsD.start {f : FuncId} {fn : Func} {c : Code} {args : List Value} {u : FrameMode} {R : Ending → World → Prop} (n : Nat) (hf : P.funcs[f]? = some fn) (hb : fn.body = some c) (hn : fn.ntmps = n) (hle : Nat.ble args.length n = true)
    (h : Cd P c (bodyPost P fn R) n (startF 0 args) w) : CallsD P f args.toArray u w fun e u' w' => u' = u ∧ R e w' := by
  have hle' := Nat.le_of_ble_eq_true hle
  refine callsD_of_wp hf hb (h _ ⟨?_, rfl, fun t v ht => ?_⟩)
  · show (args.toArray ++ Array.replicate (fn.ntmps - args.toArray.size) undef).size = n
    simp; omega
  · obtain ⟨j, rfl, hj⟩ := look_startF args 0 t v ht
    have hlt : j < args.length := (List.getElem?_eq_some_iff.1 hj).1
    show (args.toArray ++ Array.replicate (fn.ntmps - args.toArray.size) undef)[0 + j]? = some v
    rw [Nat.zero_add, Array.getElem?_append_left (by simpa using hlt)]
    simpa using hj
/-- An end without deferred calls. -/
theorem Post.endD0 {fn : Func} {R : Ending → World → Prop} {e : Exit} (hr : fn.results = #[]) (he : e = .ret ∨ e = .normal) (h : R (.returned (.tuple #[])) w) : Post (bodyPostD P fn R) e n F w := by
  intro a ha
  have hv := results_none hr a.tmps P w
  have hd : a.defers = [] := ha.defers
  rcases he with rfl | rfl
  · show Leaves P fn a.tmps R a.defers .returning w
    rw [hd]
    exact ⟨_, hv, h⟩
  · show Leaves P fn a.tmps R a.defers .returning w
    rw [hd]
    exact ⟨_, hv, h⟩
/-- An end with one. -/
theorem Post.endD1 {fn : Func} {R : Ending → World → Prop} {R1 : Ending → World → Prop} {e : Exit} {g : FuncId} {vs : List Value} {I : Inhabited (List Deferred)} (hI : I.default = [dcallF g vs]) (hr : fn.results = #[]) (he : e = .ret ∨ e = .normal) (hen : ∀ args w, (callFunc g args).run P w = .ok (.enter g args) w)
    (hc : CallsD P g vs.toArray .returning w fun e u' w' => u' = .returning ∧ R1 e w') (hR : ∀ e w', R1 e w' → (∃ v, e = .returned v) ∧ R (.returned (.tuple #[])) w') : @Post I (bodyPostD P fn R) e n F w := by
  intro a ha
  have hd : a.defers = [dcallF g vs] := ha.defers.trans hI
  have hL : Leaves P fn a.tmps R a.defers .returning w := by
    rw [hd]
    refine leaves_cons (by simp) (f := g) (args := vs.toArray) (by simp [invoke, hen]) (hc.mono fun e u' w' ⟨hu, h1⟩ => ?_)
    obtain ⟨⟨v, rfl⟩, h2⟩ := hR e w' h1
    subst hu
    exact ⟨_, results_none hr a.tmps P w', h2⟩
  rcases he with rfl | rfl
  · exact hL
  · exact hL
end
end Go.Proofs.Ytijaldpmpjapiaa
namespace Go.Proofs.Ytijaldpmpjapiaa
open Go.RowKit
theorem zero_uint8 : zeroIs Try.prog 5 = some (some (.int .u8 0)) := by kernel_rfl
theorem zero_int : zeroIs Try.prog 3 = some (some (.int .i64 0)) := by kernel_rfl
end Go.Proofs.Ytijaldpmpjapiaa
namespace Go.Proofs.Ytijaldpmpjapiaa
open Go.RowKit

/-- The bytes of the first k rounds. -/
def prB (u d : Nat) : Nat → List Nat
  | 0 => []
  | k + 1 => prB u d k ++ (if k = d ∧ 0 < d then [46] else []) ++ [48 + u / 10 ^ k % 10]
theorem prB_len (u d : Nat) : ∀ k, k ≤ (prB u d k).length ∧ (prB u d k).length ≤ 2 * k
  | 0 => by simp [prB]
  | k + 1 => by
    have ih := prB_len u d k
    unfold prB
    split <;> simp <;> omega
theorem prB_lt (u d : Nat) : ∀ k, ∀ x ∈ prB u d k, x < 256
  | 0 => by simp [prB]
  | k + 1 => by
    have ih := prB_lt u d k
    unfold prB
    intro x hx
    simp only [List.mem_append, List.mem_singleton] at hx
    rcases hx with (hx | hx) | hx
    · exact ih x hx
    · split at hx
      · simp at hx; omega
      · simp at hx
    · omega
/-- So many rounds. -/
def Rounds (u d N : Nat) : Prop := (∀ k, k < N → 0 < u / 10 ^ k ∨ k ≤ d) ∧ ¬ (0 < u / 10 ^ N ∨ N ≤ d)
def printed (n : Int) (d N : Nat) : List Nat := (prB n.natAbs d N ++ if n < 0 then [45] else []).reverse
theorem div_ten (u k : Nat) : u / 10 ^ k / 10 = u / 10 ^ (k + 1) := by rw [Nat.div_div_eq_div_mul, Nat.pow_succ]
end Go.Proofs.Ytijaldpmpjapiaa
namespace Go.Proofs.Ytijaldpmpjapiaa

def isDg (c : Nat) : Prop := 48 ≤ c ∧ c ≤ 57
/-- The number of digits, the highest first. -/
def valD (l : List Nat) : Nat := l.foldl (fun n c => 10 * n + (c - 48)) 0
theorem valD_foldl (l : List Nat) : ∀ a, l.foldl (fun n c => 10 * n + (c - 48)) a = a * 10 ^ l.length + valD l := by
  induction l with
  | nil => intro a; simp [valD]
  | cons c l ih =>
    intro a
    have e1 : valD (c :: l) = (c - 48) * 10 ^ l.length + valD l := by
      show List.foldl _ _ (c :: l) = _
      rw [List.foldl_cons, ih, Nat.mul_zero, Nat.zero_add]
    rw [List.foldl_cons, ih, e1, List.length_cons, Nat.pow_succ]
    have : (10 * a + (c - 48)) * 10 ^ l.length = a * (10 ^ l.length * 10) + (c - 48) * 10 ^ l.length := by rw [Nat.add_mul, Nat.mul_comm 10 a, Nat.mul_assoc, Nat.mul_comm 10]
    rw [this]
    omega
theorem valD_cons (c : Nat) (l : List Nat) : valD (c :: l) = (c - 48) * 10 ^ l.length + valD l := by
  show List.foldl _ _ (c :: l) = _
  rw [List.foldl_cons, valD_foldl, Nat.mul_zero, Nat.zero_add]
theorem valD_snoc (l : List Nat) (c : Nat) : valD (l ++ [c]) = 10 * valD l + (c - 48) := by unfold valD; rw [List.foldl_append]; rfl
theorem valD_append (a b : List Nat) : valD (a ++ b) = valD a * 10 ^ b.length + valD b := by
  show List.foldl _ _ (a ++ b) = _
  rw [List.foldl_append, valD_foldl]
  rfl
theorem valD_lt (l : List Nat) (h : ∀ c ∈ l, isDg c) : valD l < 10 ^ l.length := by
  induction l with
  | nil => simp [valD]
  | cons c l ih =>
    have h1 := ih fun x hx => h x (List.mem_cons_of_mem _ hx)
    have h2 := h c (List.mem_cons_self ..)
    unfold isDg at h2
    rw [valD_cons, List.length_cons, Nat.pow_succ]
    have : (c - 48) * 10 ^ l.length ≤ 9 * 10 ^ l.length := Nat.mul_le_mul_right _ (by omega)
    omega
theorem valD_take (l : List Nat) (k : Nat) : valD (l.take k) ≤ valD l := by
  have h := valD_append (l.take k) (l.drop k)
  rw [List.take_append_drop] at h
  have h2 : valD (l.take k) * 1 ≤ valD (l.take k) * 10 ^ (l.drop k).length := Nat.mul_le_mul_left _ (Nat.pos_of_ne_zero (by simp))
  omega
/-- The digits of a number, the lowest first. -/
def Dg (u : Nat) : Nat → List Nat
  | 0 => []
  | k + 1 => Dg u k ++ [48 + u / 10 ^ k % 10]
theorem Dg_len (u : Nat) : ∀ k, (Dg u k).length = k
  | 0 => rfl
  | k + 1 => by unfold Dg; rw [List.length_append, Dg_len u k]; rfl
theorem Dg_dg (u : Nat) : ∀ k, ∀ c ∈ Dg u k, isDg c
  | 0, c, h => by simp [Dg] at h
  | k + 1, c, h => by
    unfold Dg at h
    rcases List.mem_append.1 h with h | h
    · exact Dg_dg u k c h
    · simp at h; unfold isDg; omega
theorem Dg_take (u : Nat) : ∀ k j, j ≤ k → (Dg u k).take j = Dg u j
  | 0, j, h => by obtain rfl : j = 0 := by omega
                  rfl
  | k + 1, j, h => by
    rcases Nat.lt_or_ge k j with h1 | h1
    · obtain rfl : j = k + 1 := by omega
      exact List.take_of_length_le (by rw [Dg_len]; omega)
    · rw [show Dg u (k + 1) = Dg u k ++ [48 + u / 10 ^ k % 10] from rfl, List.take_append_of_le_length (by rw [Dg_len]; omega)]
      exact Dg_take u k j h1
theorem Dg_last (u k : Nat) : (Dg u (k + 1)).reverse = (48 + u / 10 ^ k % 10) :: (Dg u k).reverse := by
  show (Dg u k ++ [48 + u / 10 ^ k % 10]).reverse = _
  rw [List.reverse_append]; rfl
theorem Dg_val (u : Nat) : ∀ k, valD (Dg u k).reverse = u % 10 ^ k
  | 0 => by simp [Dg, valD, Nat.mod_one]
  | k + 1 => by
    rw [Dg_last, valD_cons, List.length_reverse, Dg_len, Dg_val u k, Nat.pow_succ, Nat.mod_mul, show 48 + u / 10 ^ k % 10 - 48 = u / 10 ^ k % 10 by omega, Nat.mul_comm]
    omega
theorem Dg_cons (v e : Nat) (he : e < 10) : ∀ n, Dg (10 * v + e) (n + 1) = (48 + e) :: Dg v n
  | 0 => by simp [Dg]; omega
  | n + 1 => by
    have h := Dg_cons v e he n
    rw [show Dg (10 * v + e) (n + 1 + 1) = Dg (10 * v + e) (n + 1) ++ [48 + (10 * v + e) / 10 ^ (n + 1) % 10] from rfl, h, show Dg v (n + 1) = Dg v n ++ [48 + v / 10 ^ n % 10] from rfl]
    have : (10 * v + e) / 10 ^ (n + 1) = v / 10 ^ n := by
      rw [Nat.pow_succ, Nat.mul_comm (10 ^ n) 10, ← Nat.div_div_eq_div_mul, show (10 * v + e) / 10 = v by omega]
    rw [this]
    rfl
theorem Dg_of (n : Nat) : ∀ l : List Nat, l.length = n → (∀ c ∈ l, isDg c) → Dg (valD l) n = l.reverse := by
  induction n with
  | zero => intro l hl _; obtain rfl := List.eq_nil_of_length_eq_zero hl; rfl
  | succ n ih =>
    intro l hl hd
    rcases List.eq_nil_or_concat l with rfl | ⟨m, c, rfl⟩
    · cases hl
    · have hc : isDg c := hd c (by simp)
      have hm : m.length = n := by simpa using hl
      have h1 := ih m hm fun x hx => hd x (by simp [hx])
      unfold isDg at hc
      rw [List.concat_eq_append, valD_snoc, Dg_cons _ _ (by omega), h1, List.reverse_append, show 48 + (c - 48) = c by omega]
      rfl
theorem prB_low (u d : Nat) : ∀ k, d = 0 ∨ k ≤ d → prB u d k = Dg u k
  | 0, _ => rfl
  | k + 1, h => by
    have h1 := prB_low u d k (by omega)
    show prB u d k ++ (if k = d ∧ 0 < d then [46] else []) ++ [48 + u / 10 ^ k % 10] = _
    rw [h1, if_neg (by omega), List.append_nil]
    rfl
theorem prB_high (u d : Nat) (h0 : 0 < d) : ∀ k, prB u d (d + 1 + k) = Dg u d ++ 46 :: (Dg u (d + 1 + k)).drop d
  | 0 => by
    show prB u d d ++ (if d = d ∧ 0 < d then [46] else []) ++ [48 + u / 10 ^ d % 10] = _
    rw [prB_low u d d (by omega), if_pos ⟨rfl, h0⟩, show d + 1 + 0 = d + 1 by rfl, show Dg u (d + 1) = Dg u d ++ [48 + u / 10 ^ d % 10] from rfl, List.drop_left' (Dg_len u d)]
    simp
  | k + 1 => by
    show prB u d (d + 1 + k) ++ (if d + 1 + k = d ∧ 0 < d then [46] else []) ++ [48 + u / 10 ^ (d + 1 + k) % 10] = Dg u d ++ 46 :: (Dg u (d + 1 + k) ++ [48 + u / 10 ^ (d + 1 + k) % 10]).drop d
    rw [prB_high u d h0 k, if_neg (by omega), List.append_nil, List.drop_append_of_le_length (by rw [Dg_len]; omega)]
    simp
/-- The text of a number. -/
def FormL (x : Int) (d : Nat) (F B : List Nat) : List Nat := (if x < 0 then [45] else []) ++ (F ++ (if 0 < d then 46 :: B else []))
structure Form (l : List Nat) (d : Nat) (x : Int) (F B : List Nat) : Prop where
  f : ∀ c ∈ F, isDg c
  b : ∀ c ∈ B, isDg c
  len : B.length = d
  pos : 0 < F.length
  lead : 1 < F.length → F[0]? ≠ some 48
  val : valD (F ++ B) = x.natAbs
  eq : l = FormL x d F B
theorem form_of_printed (x : Int) (d N : Nat) (h : Rounds x.natAbs d N) : ∃ F B, Form (printed x d N) d x F B := by
  obtain ⟨h1, h2⟩ := h
  have hN : d < N := by rcases Nat.lt_or_ge d N with h | h
                        · exact h
                        · exact absurd (.inr h) h2
  have hu : x.natAbs / 10 ^ N = 0 := by rcases Nat.eq_zero_or_pos (x.natAbs / 10 ^ N) with h | h
                                        · exact h
                                        · exact absurd (.inl h) h2
  have hlt : x.natAbs < 10 ^ N := by
    rcases Nat.lt_or_ge x.natAbs (10 ^ N) with h | h
    · exact h
    · have := Nat.div_pos h (Nat.pos_of_ne_zero (by simp)); omega
  have hsp : (Dg x.natAbs N).reverse = ((Dg x.natAbs N).drop d).reverse ++ (Dg x.natAbs d).reverse := by
    rw [← List.reverse_append, ← Dg_take x.natAbs N d (by omega), List.take_append_drop]
  refine ⟨((Dg x.natAbs N).drop d).reverse, (Dg x.natAbs d).reverse, ?_, ?_, ?_, ?_, ?_, ?_, ?_⟩
  · intro c hc
    exact Dg_dg _ _ c (List.mem_of_mem_drop (List.mem_reverse.1 hc))
  · intro c hc
    exact Dg_dg _ _ c (List.mem_reverse.1 hc)
  · rw [List.length_reverse, Dg_len]
  · rw [List.length_reverse, List.length_drop, Dg_len]; omega
  · intro hl
    rw [List.length_reverse, List.length_drop, Dg_len] at hl
    obtain ⟨M, rfl⟩ : ∃ M, N = M + 1 := ⟨N - 1, by omega⟩
    have h3 := h1 M (by omega)
    have h4 : 0 < x.natAbs / 10 ^ M := by omega
    have h5 : x.natAbs / 10 ^ M < 10 := by
      rw [Nat.div_lt_iff_lt_mul (Nat.pos_of_ne_zero (by simp)), Nat.mul_comm, ← Nat.pow_succ]; exact hlt
    show ((Dg x.natAbs M ++ [48 + x.natAbs / 10 ^ M % 10]).drop d).reverse[0]? ≠ _
    rw [List.drop_append_of_le_length (by rw [Dg_len]; omega), List.reverse_append]
    simp
    omega
  · rw [← hsp, Dg_val, Nat.mod_eq_of_lt hlt]
  · unfold printed FormL
    rw [List.reverse_append]
    have e1 : (if x < 0 then [45] else [] : List Nat).reverse = if x < 0 then [45] else [] := by split <;> rfl
    rw [e1]
    congr 1
    rcases Nat.eq_zero_or_pos d with h0 | h0
    · subst h0
      rw [prB_low _ _ _ (.inl rfl), if_neg (by omega), List.append_nil, List.drop_zero]
    · obtain ⟨k, rfl⟩ : ∃ k, N = d + 1 + k := ⟨N - d - 1, by omega⟩
      rw [prB_high _ _ h0, if_pos h0, List.reverse_append, List.reverse_cons]
      simp
theorem printed_of_form {l : List Nat} {d : Nat} {x : Int} {F B : List Nat} (h : Form l d x F B) : ∃ N, Rounds x.natAbs d N ∧ l = printed x d N ∧ N = F.length + d := by
  obtain ⟨hf, hb, hlen, hpos, hlead, hval, heq⟩ := h
  have hd : ∀ c ∈ F ++ B, isDg c := fun c hc => by
    rcases List.mem_append.1 hc with h | h
    · exact hf c h
    · exact hb c h
  have hD := Dg_of (F.length + d) (F ++ B) (by rw [List.length_append, hlen]) hd
  have hlt := valD_lt (F ++ B) hd
  rw [List.length_append, hlen] at hlt
  rw [hval] at hD hlt
  have hN : Rounds x.natAbs d (F.length + d) := by
    refine ⟨fun k hk => ?_, ?_⟩
    · rcases Nat.lt_or_ge d k with h | h
      · left
        cases F with
        | nil => simp at hpos
        | cons c F =>
          have h1 := hlead (by simp at hk ⊢; omega)
          have h2 := hf c (List.mem_cons_self ..)
          unfold isDg at h2
          simp at h1
          have h3 : valD (c :: F ++ B) = (c - 48) * 10 ^ (F ++ B).length + valD (F ++ B) := valD_cons c (F ++ B)
          rw [hval, List.length_append, hlen] at h3
          have h4 : 1 * 10 ^ (F.length + d) ≤ (c - 48) * 10 ^ (F.length + d) := Nat.mul_le_mul_right _ (by omega)
          have h5 : 10 ^ k ≤ 10 ^ (F.length + d) := Nat.pow_le_pow_right (by omega) (by simp at hk; omega)
          exact Nat.div_pos (by omega) (Nat.pos_of_ne_zero (by simp))
      · exact .inr h
    · rw [Nat.div_eq_of_lt hlt]; omega
  refine ⟨_, hN, ?_, rfl⟩
  rw [heq]
  unfold FormL printed
  rw [List.reverse_append]
  have e1 : (if x < 0 then [45] else [] : List Nat).reverse = if x < 0 then [45] else [] := by split <;> rfl
  rw [e1]
  congr 1
  rcases Nat.eq_zero_or_pos d with h0 | h0
  · subst h0
    obtain rfl := List.eq_nil_of_length_eq_zero hlen
    rw [prB_low _ _ _ (.inl rfl), if_neg (by omega), hD, List.reverse_reverse]
  · obtain ⟨k, hk⟩ : ∃ k, F.length + d = d + 1 + k := ⟨F.length - 1, by omega⟩
    have hB : Dg x.natAbs d = B.reverse := by
      rw [← Dg_take x.natAbs (F.length + d) d (by omega), hD, List.reverse_append, List.take_left' (by rw [List.length_reverse, hlen])]
    rw [hk] at hD
    rw [hk, prB_high _ _ h0, if_pos h0, hD, hB, show (F ++ B).reverse = B.reverse ++ F.reverse from List.reverse_append, List.drop_left' (by rw [List.length_reverse, hlen])]
    simp
/-- The number of digits that stand in a text. -/
def valS (l : List Nat) : Nat := l.foldl (fun n c => if 48 ≤ c ∧ c ≤ 57 then 10 * n + (c - 48) else n) 0
theorem foldS_dg (l : List Nat) (h : ∀ c ∈ l, isDg c) : ∀ a, l.foldl (fun n c => if 48 ≤ c ∧ c ≤ 57 then 10 * n + (c - 48) else n) a = l.foldl (fun n c => 10 * n + (c - 48)) a := by
  induction l with
  | nil => intro a; rfl
  | cons c l ih =>
    intro a
    rw [List.foldl_cons, List.foldl_cons, if_pos (show 48 ≤ c ∧ c ≤ 57 from h c (List.mem_cons_self ..))]
    exact ih (fun x hx => h x (List.mem_cons_of_mem _ hx)) _
theorem valS_snoc (l : List Nat) (c : Nat) : valS (l ++ [c]) = if 48 ≤ c ∧ c ≤ 57 then 10 * valS l + (c - 48) else valS l := by unfold valS; rw [List.foldl_append]; rfl
theorem valS_lt (l : List Nat) : ∀ k, valS (l.take k) < 10 ^ k
  | 0 => by simp [valS]
  | k + 1 => by
    have h := valS_lt l k
    rw [List.take_add_one]
    cases l[k]? with
    | none => simp; rw [Nat.pow_succ]; omega
    | some c =>
      rw [show (some c).toList = [c] from rfl, valS_snoc, Nat.pow_succ]
      split <;> omega
def signZ (l : List Nat) : Int := if l.head? = some 45 then -(valS l : Int) else valS l
theorem signZ_form {l : List Nat} {d : Nat} {x : Int} {F B : List Nat} (h : Form l d x F B) : signZ l = x := by
  obtain ⟨hf, hb, hlen, hpos, hlead, hval, heq⟩ := h
  have hv : valS l = x.natAbs := by
    rw [heq, ← hval]
    unfold valS FormL
    rw [List.foldl_append, List.foldl_append, foldS_dg F hf]
    have e1 : List.foldl (fun n c => if 48 ≤ c ∧ c ≤ 57 then 10 * n + (c - 48) else n) 0 (if x < 0 then [45] else []) = 0 := by split <;> rfl
    rw [e1]
    unfold valD
    rw [List.foldl_append]
    rcases Nat.eq_zero_or_pos d with h0 | h0
    · subst h0
      obtain rfl := List.eq_nil_of_length_eq_zero hlen
      rfl
    · rw [if_pos h0, List.foldl_cons, if_neg (by omega), foldS_dg B hb]
  unfold signZ
  rw [hv]
  have hh : (l.head? = some 45) ↔ x < 0 := by
    rw [heq]
    unfold FormL
    by_cases hx : x < 0
    · simp [hx]
    · cases F with
      | nil => simp at hpos
      | cons c F =>
        have := hf c (List.mem_cons_self ..)
        unfold isDg at this
        simp [hx]
        omega
  by_cases hx : x < 0
  · rw [if_pos (hh.2 hx)]; omega
  · rw [if_neg (fun h => hx (hh.1 h))]; omega
end Go.Proofs.Ytijaldpmpjapiaa
namespace Go.Proofs.Ytijaldpmpjapiaa
open Go.RowKit

section
variable {P : Program} {E : Operand → Option Value} {o : Oper} {w w' : World} {v : Value}
/-- A call that runs here and now. -/
theorem Runs.here {f : FuncId} {args : Array Operand} {ts : Array TypeId} {vs : List Value} (ho : o.op = .call { callee := .value (.func f), args := args, argTypes := ts }) (hf : E (.func f) = some (.func (.func f) #[] #[])) (hx : evL E args.toList = some vs)
    (he : (callFunc f vs.toArray).run P w = .ok (.value v) w') : Runs P E o w v w' := fun ρ h => by
  have hargs : args.map ρ = vs.toArray := by
    apply Array.ext'
    rw [Array.toList_map, evL_map h hx]
  unfold execOp
  simp only [ho, resolve, h _ _ hf, Deferred.ofValue, hargs, Sem.run_bind, Sem.run_pure, Result.andThen_ok, invoke]
  simp [he]
end

theorem indexByteString_here (l : List Nat) (c : Nat) (hl : ∀ x ∈ l, x < 256) (hc : c < 256) (w : World) : (callFunc 185 [.string (strOf l), .int .u8 (c : Int)].toArray).run Try.prog w = .ok (.value (.int .i64 (if c ∈ l then (idx l c : Int) else -1))) w := by
  rw [run_callFunc_extern Try.func185 (by kernel_rfl) (by kernel_rfl) (by kernel_rfl) (e := Extern.BytealgIndexByte.indexByte) (by kernel_rfl), Lib.run_indexByteString]
  rw [strOf_data, show (c : Int).toNat.toUInt8 = UInt8.ofNat c by rw [Int.toNat_natCast], indexByte_idx c hc l hl]
  rfl
theorem indexByte_any (l : List Nat) (c : Nat) (w : World) (hl : ∀ x ∈ l, x < 256) (hc : c < 256) :
    Calls Try.prog 181 #[.string (strOf l), .int .u8 (c : Int)] w fun e w' => e = .returned (.int .i64 (if c ∈ l then (idx l c : Int) else -1)) ∧ w = w' := by
  refine Calls.start 8 Try.func181 rfl rfl rfl ?_
  refine Cd.seq ?_
  refine Cd.region ?_
  refine Seq.val (Runs.assign rfl rfl) rfl rfl rfl ?_
  refine Seq.nil ?_
  refine Post.weak (F' := [(0, _), (1, _), (4, _)]) ⟨rfl, rfl, rfl, trivial⟩ ?_
  refine Post.then_ ?_
  refine Cd.seq ?_
  refine Cd.region ?_
  refine Seq.val (Runs.move rfl rfl) rfl rfl rfl ?_
  refine Seq.val (Runs.move rfl rfl) rfl rfl rfl ?_
  refine Seq.val (Runs.here rfl rfl rfl (indexByteString_here l c hl hc _)) rfl rfl rfl ?_
  refine Seq.val (Runs.assign rfl rfl) rfl rfl rfl ?_
  refine Seq.nil ?_
  refine Post.weak (F' := [(0, _), (1, _), (4, _)]) ⟨rfl, rfl, rfl, trivial⟩ ?_
  refine Post.then_ ?_
  refine Cd.ret ?_
  refine Post.end1 rfl rfl (.inl rfl) ?_
  exact ⟨rfl, rfl⟩
theorem index_any (l : List Nat) (c : Nat) (w : World) (hl : ∀ x ∈ l, x < 256) (hc : c < 256) :
    Calls Try.prog 180 #[.string (strOf l), .string (strOf [c])] w fun e w' => e = .returned (.int .i64 (if c ∈ l then (idx l c : Int) else -1)) ∧ w = w' := by
  have h1 : ∀ x ∈ [c], x < 256 := fun x hx => by simp at hx; omega
  refine Calls.start 143 Try.func180 rfl rfl rfl ?_
  refine Cd.seq ?_
  refine Cd.region ?_
  refine Seq.val (Runs.assign rfl rfl) rfl rfl rfl ?_
  refine Seq.nil ?_
  refine Post.weak (F' := [(0, _), (1, _), (4, _)]) ⟨rfl, rfl, rfl, trivial⟩ ?_
  refine Post.then_ ?_
  refine Cd.seq ?_
  refine Cd.region ?_
  refine Seq.val (Runs.move rfl rfl) rfl rfl rfl ?_
  refine Seq.val (Runs.lenL rfl rfl Try.underlying9) rfl rfl rfl ?_
  refine Seq.val (Runs.assign rfl rfl) rfl rfl rfl ?_
  refine Seq.nil ?_
  refine Post.weak (F' := [(0, _), (1, _), (4, _), (5, _)]) ⟨rfl, rfl, rfl, rfl, trivial⟩ ?_
  refine Post.then_ ?_
  refine Cd.seq ?_
  refine Cd.block ?_
  refine Cd.seq ?_
  refine Cd.region ?_
  refine Seq.val (Runs.move rfl rfl) rfl rfl rfl ?_
  refine Seq.val (Runs.eqlI rfl rfl rfl) rfl rfl rfl ?_
  refine Seq.val (Runs.move rfl rfl) rfl rfl rfl ?_
  refine SeqC.start ?_
  refine SeqC.open rfl rfl rfl rfl rfl rfl rfl (fun hcx => Runs.move rfl rfl) ?_
  refine SeqC.next rfl rfl rfl rfl rfl rfl rfl (fun hcx => Runs.move rfl rfl) ?_
  refine SeqC.next rfl rfl rfl rfl rfl rfl rfl (fun hcx => Runs.eqlL (a := [c]) (b := l) rfl rfl rfl h1 hl) ?_
  refine SeqC.or rfl rfl rfl rfl rfl rfl rfl ?_
  refine Seq.val (Runs.assign rfl rfl) rfl rfl rfl ?_
  refine Seq.nil ?_
  refine Post.weak (F' := [(0, _), (1, _), (4, _), (5, _), (16, _)]) ⟨rfl, rfl, rfl, rfl, rfl, trivial⟩ ?_
  refine Post.then_ ?_
  refine Cd.cond rfl (fun h => ?_) (fun h => ?_)
  · have : l = [c] := (show [c] = l by simpa using h).symm
    subst this
    refine Cd.seq ?_
    refine Cd.region ?_
    refine Seq.val (Runs.assign rfl rfl) rfl rfl rfl ?_
    refine Seq.nil ?_
    refine Post.weak (F' := [(0, _), (1, _), (4, _), (5, _), (16, _)]) ⟨rfl, rfl, rfl, rfl, rfl, trivial⟩ ?_
    refine Post.then_ ?_
    refine Cd.ret ?_
    refine Post.block_ret ?_
    refine Post.then_ret ?_
    refine Post.end1 rfl rfl (.inl rfl) ?_
    exact ⟨by simp [idx], rfl⟩
  · skip
    refine Cd.seq ?_
    refine Cd.region ?_
    refine Seq.val (Runs.move rfl rfl) rfl rfl rfl ?_
    refine Seq.val (Runs.eqlI rfl rfl rfl) rfl rfl rfl ?_
    refine Seq.val (Runs.assign rfl rfl) rfl rfl rfl ?_
    refine Seq.nil ?_
    refine Post.weak (F' := [(0, _), (1, _), (4, _), (5, _), (16, _), (24, _)]) ⟨rfl, rfl, rfl, rfl, rfl, rfl, trivial⟩ ?_
    refine Post.then_ ?_
    refine Cd.condT rfl rfl ?_
    refine Cd.seq ?_
    refine Cd.region ?_
    refine Seq.val (Runs.move rfl rfl) rfl rfl rfl ?_
    refine Seq.val (Runs.move rfl rfl) rfl rfl rfl ?_
    refine Seq.val (Runs.indexL (l := [c]) (j := 0) (c := c) rfl rfl rfl Try.underlying9 rfl rfl hc) rfl rfl rfl ?_
    refine Seq.call (Enters.func rfl rfl rfl (run_enter Try.func181 (by kernel_rfl) rfl)) rfl rfl rfl (indexByte_any l c _ hl hc) ?_
    rintro e w2 ⟨rfl, rfl⟩
    refine ⟨_, rfl, ?_⟩
    refine Seq.val (Runs.assign rfl rfl) rfl rfl rfl ?_
    refine Seq.nil ?_
    refine Post.weak (F' := [(0, _), (1, _), (4, _), (5, _), (16, _), (24, _)]) ⟨rfl, rfl, rfl, rfl, rfl, rfl, trivial⟩ ?_
    refine Post.then_ ?_
    refine Cd.ret ?_
    refine Post.block_ret ?_
    refine Post.then_ret ?_
    refine Post.end1 rfl rfl (.inl rfl) ?_
    exact ⟨rfl, rfl⟩
/-- What stands ahead of the first byte of a kind, and behind it. -/
def cutA (l : List Nat) (c : Nat) : List Nat := if c ∈ l then l.take (idx l c) else l
def cutB (l : List Nat) (c : Nat) : List Nat := if c ∈ l then l.drop (idx l c + 1) else []
theorem cut_lite (l : List Nat) (c : Nat) (w : World) (hl : ∀ x ∈ l, x < 256) (hc : c < 256) (hn : l.length ≤ 9223372036854775807) :
    Calls Try.prog 174 #[.string (strOf l), .string (strOf [c])] w fun e w' => e = .returned (.tuple #[.string (strOf (cutA l c)), .string (strOf (cutB l c)), .bool (decide (c ∈ l))]) ∧ Grow w w' := by
  have bel := Below.refl w.heap.size w
  have hc1 : [c].length = 1 := rfl
  refine Calls.start 23 Try.func174 rfl rfl rfl ?_
  refine Cd.seq ?_
  refine Cd.region ?_
  refine Seq.val (Runs.assign rfl rfl) rfl rfl rfl ?_
  refine Seq.val (Runs.assign rfl rfl) rfl rfl rfl ?_
  refine Seq.val (Runs.assign rfl rfl) rfl rfl rfl ?_
  refine Seq.nil ?_
  refine Post.weak (F' := [(0, _), (1, _), (4, _), (5, _), (6, _)]) ⟨rfl, rfl, rfl, rfl, rfl, trivial⟩ ?_
  refine Post.then_ ?_
  refine Cd.seq ?_
  refine Cd.seq ?_
  refine Cd.region ?_
  refine Seq.val (Runs.move rfl rfl) rfl rfl rfl ?_
  refine Seq.val (Runs.move rfl rfl) rfl rfl rfl ?_
  refine Seq.call (Enters.func rfl rfl rfl (run_enter Try.func180 (by kernel_rfl) rfl)) rfl rfl rfl (index_any l c _ hl hc) ?_
  rintro e w2 ⟨rfl, rfl⟩
  refine ⟨_, rfl, ?_⟩
  by_cases hm : c ∈ l
  · obtain ⟨h1, -, -⟩ := idx_split l c hm
    rw [if_pos hm]
    unfold cutA cutB
    rw [if_pos hm, if_pos hm, decide_eq_true hm]
    refine Seq.val (Runs.assign rfl rfl) rfl rfl rfl ?_
    refine Seq.nil ?_
    refine Post.weak (F' := [(0, _), (1, _), (4, _), (5, _), (6, _), (7, _)]) ⟨rfl, rfl, rfl, rfl, rfl, rfl, trivial⟩ ?_
    refine Post.then_ ?_
    refine Cd.seq ?_
    refine Cd.region ?_
    refine Seq.val (Runs.move rfl rfl) rfl rfl rfl ?_
    refine Seq.val (Runs.geq rfl rfl rfl) rfl rfl rfl ?_
    refine Seq.nil ?_
    refine Post.weak (F' := [(0, _), (1, _), (4, _), (5, _), (6, _), (7, _), (12, _)]) ⟨rfl, rfl, rfl, rfl, rfl, rfl, rfl, trivial⟩ ?_
    refine Post.then_ ?_
    refine Cd.condT rfl (decide_eq_true (by omega)) ?_
    refine Cd.seq ?_
    refine Cd.weak (F' := [(0, _), (1, _), (7, _), (12, _)]) ⟨rfl, rfl, rfl, rfl, trivial⟩ ?_
    refine Cd.draw 12 (by kernel_rfl) [] (.inl rfl) rfl Grow Grow.refl (fun _ _ _ => Grow.trans) ?_
    intro w1 hw1 zw1
    replace bel := bel.step hw1
    have zbel := bel.size
    refine Dr.val Grow.refl rfl (fun w hG => Runs.move rfl rfl) rfl ?_
    refine Dr.val Grow.refl rfl (fun w hG => Runs.move rfl rfl) rfl ?_
    refine Dr.val Grow.refl rfl (fun w hG => Runs.sliceTo (j := idx l c) rfl rfl rfl Try.underlying9 rfl (by omega)) rfl ?_
    refine Dr.val Grow.refl rfl (fun w hG => Runs.move rfl rfl) rfl ?_
    refine Dr.val Grow.refl rfl (fun w hG => Runs.move rfl rfl) rfl ?_
    refine Dr.val Grow.refl rfl (fun w hG => Runs.move rfl rfl) rfl ?_
    refine Dr.val Grow.refl rfl (fun w hG => Runs.lenL rfl rfl Try.underlying9) rfl ?_
    refine Dr.val Grow.refl rfl (fun w hG => Runs.addI rfl rfl rfl (by omega) (by omega)) rfl ?_
    refine Dr.val Grow.refl rfl (fun w hG => Runs.sliceFrom (j := idx l c + 1) rfl rfl rfl Try.underlying9 rfl (by omega)) rfl ?_
    refine Dr.val Grow.refl rfl (fun w hG => Runs.assign rfl rfl) rfl ?_
    refine Dr.val Grow.refl rfl (fun w hG => Runs.assign rfl rfl) rfl ?_
    refine Dr.val Grow.refl rfl (fun w hG => Runs.assign rfl rfl) rfl ?_
    refine Dr.nil ?_
    refine FinX.done (F' := [(0, _), (1, _), (4, _), (5, _), (6, _), (7, _), (12, _)]) rfl ⟨rfl, rfl, rfl, rfl, rfl, rfl, rfl, trivial⟩ ?_
    intro w2 hw2 fw2
    replace bel := bel.step hw2
    refine Seq.nil ?_
    refine Post.weak (F' := [(0, _), (1, _), (4, _), (5, _), (6, _), (7, _), (12, _)]) ⟨rfl, rfl, rfl, rfl, rfl, rfl, rfl, trivial⟩ ?_
    refine Post.then_ ?_
    refine Cd.ret ?_
    refine Post.then_ret ?_
    refine Post.end3 rfl rfl rfl rfl (.inl rfl) ?_
    exact ⟨rfl, bel⟩
  · rw [if_neg hm]
    unfold cutA cutB
    rw [if_neg hm, if_neg hm, decide_eq_false hm]
    refine Seq.val (Runs.assign rfl rfl) rfl rfl rfl ?_
    refine Seq.nil ?_
    refine Post.weak (F' := [(0, _), (1, _), (4, _), (5, _), (6, _), (7, _)]) ⟨rfl, rfl, rfl, rfl, rfl, rfl, trivial⟩ ?_
    refine Post.then_ ?_
    refine Cd.seq ?_
    refine Cd.region ?_
    refine Seq.val (Runs.move rfl rfl) rfl rfl rfl ?_
    refine Seq.val (Runs.geq rfl rfl rfl) rfl rfl rfl ?_
    refine Seq.nil ?_
    refine Post.weak (F' := [(0, _), (1, _), (4, _), (5, _), (6, _), (7, _), (12, _)]) ⟨rfl, rfl, rfl, rfl, rfl, rfl, rfl, trivial⟩ ?_
    refine Post.then_ ?_
    refine Cd.condF rfl rfl ?_
    refine Cd.skip ?_
    refine Post.then_ ?_
    refine Cd.seq ?_
    refine Cd.region ?_
    refine Seq.val (Runs.move rfl rfl) rfl rfl rfl ?_
    refine Seq.val (Runs.assign rfl rfl) rfl rfl rfl ?_
    refine Seq.val (Runs.assign rfl rfl) rfl rfl rfl ?_
    refine Seq.val (Runs.assign rfl rfl) rfl rfl rfl ?_
    refine Seq.nil ?_
    refine Post.weak (F' := [(0, _), (1, _), (4, _), (5, _), (6, _), (7, _), (12, _)]) ⟨rfl, rfl, rfl, rfl, rfl, rfl, rfl, trivial⟩ ?_
    refine Post.then_ ?_
    refine Cd.ret ?_
    refine Post.end3 rfl rfl rfl rfl (.inl rfl) ?_
    exact ⟨rfl, bel⟩
theorem cut_any (l : List Nat) (c : Nat) (w : World) (hl : ∀ x ∈ l, x < 256) (hc : c < 256) (hn : l.length ≤ 9223372036854775807) :
    Calls Try.prog 162 #[.string (strOf l), .string (strOf [c])] w fun e w' => e = .returned (.tuple #[.string (strOf (cutA l c)), .string (strOf (cutB l c)), .bool (decide (c ∈ l))]) ∧ Grow w w' := by
  have bel := Below.refl w.heap.size w
  refine Calls.start 13 Try.func162 rfl rfl rfl ?_
  refine Cd.seq ?_
  refine Cd.region ?_
  refine Seq.val (Runs.assign rfl rfl) rfl rfl rfl ?_
  refine Seq.val (Runs.assign rfl rfl) rfl rfl rfl ?_
  refine Seq.val (Runs.assign rfl rfl) rfl rfl rfl ?_
  refine Seq.nil ?_
  refine Post.weak (F' := [(0, _), (1, _), (4, _), (5, _), (6, _)]) ⟨rfl, rfl, rfl, rfl, rfl, trivial⟩ ?_
  refine Post.then_ ?_
  refine Cd.seq ?_
  refine Cd.region ?_
  refine Seq.val (Runs.move rfl rfl) rfl rfl rfl ?_
  refine Seq.val (Runs.move rfl rfl) rfl rfl rfl ?_
  refine Seq.call (Enters.func rfl rfl rfl (run_enter Try.func174 (by kernel_rfl) rfl)) rfl rfl rfl (cut_lite l c _ hl hc hn) ?_
  rintro e w2 ⟨rfl, hb2⟩
  refine ⟨_, rfl, ?_⟩
  replace bel := bel.step hb2
  refine Seq.val (Runs.extract rfl rfl rfl) rfl rfl rfl ?_
  refine Seq.val (Runs.extract rfl rfl rfl) rfl rfl rfl ?_
  refine Seq.val (Runs.extract rfl rfl rfl) rfl rfl rfl ?_
  refine Seq.val (Runs.assign rfl rfl) rfl rfl rfl ?_
  refine Seq.val (Runs.assign rfl rfl) rfl rfl rfl ?_
  refine Seq.val (Runs.assign rfl rfl) rfl rfl rfl ?_
  refine Seq.nil ?_
  refine Post.weak (F' := [(0, _), (1, _), (4, _), (5, _), (6, _)]) ⟨rfl, rfl, rfl, rfl, rfl, trivial⟩ ?_
  refine Post.then_ ?_
  refine Cd.ret ?_
  refine Post.end3 rfl rfl rfl rfl (.inl rfl) ?_
  exact ⟨rfl, bel⟩
theorem hasPrefix_any (l : List Nat) (c : Nat) (w : World) (hl : ∀ x ∈ l, x < 256) (hc : c < 256) :
    Calls Try.prog 138 #[.string (strOf l), .string (strOf [c])] w fun e w' => e = .returned (.bool (decide (l.head? = some c))) ∧ w = w' := by
  have h1 : ∀ x ∈ [c], x < 256 := fun x hx => by simp at hx; omega
  have h2 : ∀ x ∈ l.take 1, x < 256 := fun x hx => hl x (List.mem_of_mem_take hx)
  refine Calls.start 18 Try.func138 rfl rfl rfl ?_
  refine Cd.seq ?_
  refine Cd.region ?_
  refine Seq.val (Runs.assign rfl rfl) rfl rfl rfl ?_
  refine Seq.nil ?_
  refine Post.weak (F' := [(0, _), (1, _), (4, _)]) ⟨rfl, rfl, rfl, trivial⟩ ?_
  refine Post.then_ ?_
  refine Cd.seq ?_
  refine Cd.region ?_
  refine Seq.val (Runs.move rfl rfl) rfl rfl rfl ?_
  refine Seq.val (Runs.lenL rfl rfl Try.underlying9) rfl rfl rfl ?_
  refine Seq.val (Runs.move rfl rfl) rfl rfl rfl ?_
  refine Seq.val (Runs.lenL rfl rfl Try.underlying9) rfl rfl rfl ?_
  refine Seq.val (Runs.geq rfl rfl rfl) rfl rfl rfl ?_
  refine Seq.val (Runs.move rfl rfl) rfl rfl rfl ?_
  refine SeqC.start ?_
  refine SeqC.open rfl rfl rfl rfl rfl rfl rfl (fun hcx => Runs.move rfl rfl) ?_
  refine SeqC.next rfl rfl rfl rfl rfl rfl rfl (fun hcx => Runs.move rfl rfl) ?_
  refine SeqC.next rfl rfl rfl rfl rfl rfl rfl (fun hcx => Runs.lenL rfl rfl Try.underlying9) ?_
  refine SeqC.next rfl rfl rfl rfl rfl rfl rfl (fun hcx => Runs.sliceTo (j := 1) rfl rfl rfl Try.underlying9 rfl (by simp at hcx; omega)) ?_
  refine SeqC.next rfl rfl rfl rfl rfl rfl rfl (fun hcx => Runs.move rfl rfl) ?_
  refine SeqC.next rfl rfl rfl rfl rfl rfl rfl (fun hcx => Runs.eqlL (a := l.take 1) (b := [c]) rfl rfl rfl h2 h1) ?_
  refine SeqC.and rfl rfl rfl rfl rfl rfl rfl ?_
  refine Seq.val (Runs.assign rfl rfl) rfl rfl rfl ?_
  refine Seq.nil ?_
  refine Post.weak (F' := [(0, _), (1, _), (4, _)]) ⟨rfl, rfl, rfl, trivial⟩ ?_
  refine Post.then_ ?_
  refine Cd.ret ?_
  refine Post.end1 rfl rfl (.inl rfl) ?_
  refine ⟨ret1 (bool_eq ?_), rfl⟩
  cases l with
  | nil => simp
  | cons x l => rw [Bool.eq_iff_iff]; simp; omega
theorem cutPrefix_lite (l : List Nat) (c : Nat) (w : World) (hl : ∀ x ∈ l, x < 256) (hc : c < 256) :
    Calls Try.prog 173 #[.string (strOf l), .string (strOf [c])] w fun e w' => e = .returned (.tuple #[.string (strOf (if l.head? = some c then l.drop 1 else l)), .bool (decide (l.head? = some c))]) ∧ w = w' := by
  refine Calls.start 15 Try.func173 rfl rfl rfl ?_
  refine Cd.seq ?_
  refine Cd.region ?_
  refine Seq.val (Runs.assign rfl rfl) rfl rfl rfl ?_
  refine Seq.val (Runs.assign rfl rfl) rfl rfl rfl ?_
  refine Seq.nil ?_
  refine Post.weak (F' := [(0, _), (1, _), (4, _), (5, _)]) ⟨rfl, rfl, rfl, rfl, trivial⟩ ?_
  refine Post.then_ ?_
  refine Cd.seq ?_
  refine Cd.seq ?_
  refine Cd.region ?_
  refine Seq.val (Runs.move rfl rfl) rfl rfl rfl ?_
  refine Seq.val (Runs.move rfl rfl) rfl rfl rfl ?_
  refine Seq.call (Enters.func rfl rfl rfl (run_enter Try.func138 (by kernel_rfl) rfl)) rfl rfl rfl (hasPrefix_any l c _ hl hc) ?_
  rintro e w2 ⟨rfl, rfl⟩
  refine ⟨_, rfl, ?_⟩
  by_cases hm : l.head? = some c
  · rw [if_pos hm, decide_eq_true hm]
    have h1 : 1 ≤ l.length := by cases l with
      | nil => simp at hm
      | cons x l => simp
    refine Seq.val (Runs.not rfl rfl) rfl rfl rfl ?_
    refine Seq.nil ?_
    refine Post.weak (F' := [(0, _), (1, _), (4, _), (5, _), (9, _)]) ⟨rfl, rfl, rfl, rfl, rfl, trivial⟩ ?_
    refine Post.then_ ?_
    refine Cd.condF rfl rfl ?_
    refine Cd.skip ?_
    refine Post.then_ ?_
    refine Cd.seq ?_
    refine Cd.region ?_
    refine Seq.val (Runs.move rfl rfl) rfl rfl rfl ?_
    refine Seq.val (Runs.move rfl rfl) rfl rfl rfl ?_
    refine Seq.val (Runs.lenL rfl rfl Try.underlying9) rfl rfl rfl ?_
    refine Seq.val (Runs.sliceFrom (j := 1) rfl rfl rfl Try.underlying9 rfl h1) rfl rfl rfl ?_
    refine Seq.val (Runs.assign rfl rfl) rfl rfl rfl ?_
    refine Seq.val (Runs.assign rfl rfl) rfl rfl rfl ?_
    refine Seq.nil ?_
    refine Post.weak (F' := [(0, _), (1, _), (4, _), (5, _), (9, _)]) ⟨rfl, rfl, rfl, rfl, rfl, trivial⟩ ?_
    refine Post.then_ ?_
    refine Cd.ret ?_
    refine Post.end2 rfl rfl rfl (.inl rfl) ?_
    exact ⟨rfl, rfl⟩
  · rw [if_neg hm, decide_eq_false hm]
    refine Seq.val (Runs.not rfl rfl) rfl rfl rfl ?_
    refine Seq.nil ?_
    refine Post.weak (F' := [(0, _), (1, _), (4, _), (5, _), (9, _)]) ⟨rfl, rfl, rfl, rfl, rfl, trivial⟩ ?_
    refine Post.then_ ?_
    refine Cd.condT rfl rfl ?_
    refine Cd.seq ?_
    refine Cd.region ?_
    refine Seq.val (Runs.move rfl rfl) rfl rfl rfl ?_
    refine Seq.val (Runs.assign rfl rfl) rfl rfl rfl ?_
    refine Seq.val (Runs.assign rfl rfl) rfl rfl rfl ?_
    refine Seq.nil ?_
    refine Post.weak (F' := [(0, _), (1, _), (4, _), (5, _), (9, _)]) ⟨rfl, rfl, rfl, rfl, rfl, trivial⟩ ?_
    refine Post.then_ ?_
    refine Cd.ret ?_
    refine Post.then_ret ?_
    refine Post.end2 rfl rfl rfl (.inl rfl) ?_
    exact ⟨rfl, rfl⟩
theorem cutPrefix_any (l : List Nat) (c : Nat) (w : World) (hl : ∀ x ∈ l, x < 256) (hc : c < 256) :
    Calls Try.prog 161 #[.string (strOf l), .string (strOf [c])] w fun e w' => e = .returned (.tuple #[.string (strOf (if l.head? = some c then l.drop 1 else l)), .bool (decide (l.head? = some c))]) ∧ w = w' := by
  refine Calls.start 11 Try.func161 rfl rfl rfl ?_
  refine Cd.seq ?_
  refine Cd.region ?_
  refine Seq.val (Runs.assign rfl rfl) rfl rfl rfl ?_
  refine Seq.val (Runs.assign rfl rfl) rfl rfl rfl ?_
  refine Seq.nil ?_
  refine Post.weak (F' := [(0, _), (1, _), (4, _), (5, _)]) ⟨rfl, rfl, rfl, rfl, trivial⟩ ?_
  refine Post.then_ ?_
  refine Cd.seq ?_
  refine Cd.region ?_
  refine Seq.val (Runs.move rfl rfl) rfl rfl rfl ?_
  refine Seq.val (Runs.move rfl rfl) rfl rfl rfl ?_
  refine Seq.call (Enters.func rfl rfl rfl (run_enter Try.func173 (by kernel_rfl) rfl)) rfl rfl rfl (cutPrefix_lite l c _ hl hc) ?_
  rintro e w2 ⟨rfl, rfl⟩
  refine ⟨_, rfl, ?_⟩
  refine Seq.val (Runs.extract rfl rfl rfl) rfl rfl rfl ?_
  refine Seq.val (Runs.extract rfl rfl rfl) rfl rfl rfl ?_
  refine Seq.val (Runs.assign rfl rfl) rfl rfl rfl ?_
  refine Seq.val (Runs.assign rfl rfl) rfl rfl rfl ?_
  refine Seq.nil ?_
  refine Post.weak (F' := [(0, _), (1, _), (4, _), (5, _)]) ⟨rfl, rfl, rfl, rfl, trivial⟩ ?_
  refine Post.then_ ?_
  refine Cd.ret ?_
  refine Post.end2 rfl rfl rfl (.inl rfl) ?_
  exact ⟨rfl, rfl⟩
theorem digit_any (c : Nat) (w : World) : Calls Try.prog 163 #[.int .u8 (c : Int)] w fun e w' => e = .returned (.bool (decide (48 ≤ c ∧ c ≤ 57))) ∧ w = w' := by
  refine Calls.start 9 Try.func163 rfl rfl rfl ?_
  refine Cd.seq ?_
  refine Cd.region ?_
  refine Seq.val (Runs.assign rfl rfl) rfl rfl rfl ?_
  refine Seq.nil ?_
  refine Post.weak (F' := [(0, _), (2, _)]) ⟨rfl, rfl, trivial⟩ ?_
  refine Post.then_ ?_
  refine Cd.seq ?_
  refine Cd.region ?_
  refine Seq.val (Runs.move rfl rfl) rfl rfl rfl ?_
  refine Seq.val (Runs.geq rfl rfl rfl) rfl rfl rfl ?_
  refine Seq.val (Runs.move rfl rfl) rfl rfl rfl ?_
  refine SeqC.start ?_
  refine SeqC.open rfl rfl rfl rfl rfl rfl rfl (fun hcx => Runs.move rfl rfl) ?_
  refine SeqC.next rfl rfl rfl rfl rfl rfl rfl (fun hcx => Runs.leq rfl rfl rfl) ?_
  refine SeqC.and rfl rfl rfl rfl rfl rfl rfl ?_
  refine Seq.val (Runs.assign rfl rfl) rfl rfl rfl ?_
  refine Seq.nil ?_
  refine Post.weak (F' := [(0, _), (2, _)]) ⟨rfl, rfl, trivial⟩ ?_
  refine Post.then_ ?_
  refine Cd.ret ?_
  refine Post.end1 rfl rfl (.inl rfl) ?_
  refine ⟨ret1 (bool_eq ?_), rfl⟩
  rw [Bool.eq_iff_iff]
  simp
  omega
end Go.Proofs.Ytijaldpmpjapiaa
namespace Go.Proofs.Ytijaldpmpjapiaa
open Go.RowKit

def I64 (a : Int) : Prop := -9223372036854775808 ≤ a ∧ a ≤ 9223372036854775807
/-- Is it an int64? -/
def fits (a : Int) : Bool := decide (-9223372036854775808 ≤ a) && decide (a ≤ 9223372036854775807)
def smallOf (a : Int) : Int := if fits a = true then a else 0
theorem fits_of {a : Int} (h0 : -9223372036854775808 ≤ a) (h1 : a ≤ 9223372036854775807) : fits a = true := by unfold fits; rw [decide_eq_true h0, decide_eq_true h1]; rfl
theorem fits_not {a : Int} (h : a < -9223372036854775808 ∨ 9223372036854775807 < a) : fits a = false := by
  unfold fits
  rcases h with h | h
  · rw [decide_eq_false (by omega)]; rfl
  · rw [decide_eq_false (show ¬ a ≤ 9223372036854775807 by omega)]; simp
theorem smallOf_bd (a : Int) : -9223372036854775808 ≤ smallOf a ∧ smallOf a ≤ 9223372036854775807 := by
  unfold smallOf
  split
  · rename_i h
    unfold fits at h
    simp only [Bool.and_eq_true, decide_eq_true_eq] at h
    exact h
  · omega

end Go.Proofs.Ytijaldpmpjapiaa
namespace Go.Proofs.Ytijaldpmpjapiaa
open Go.RowKit

theorem Runs.nilCheck {P : Program} {E : Operand → Option Value} {o : Oper} {w : World} {x : Operand} {ad : Addr} (ho : o.op = .nilCheck x) (hx : E x = some (.pointer (some ad))) : Runs P E o w (.pointer (some ad)) w := fun ρ h => by
  unfold execOp; simp only [ho]; rw [h _ _ hx]; rfl
theorem Runs.conv_ {P : Program} {E : Operand → Option Value} {o : Oper} {w w' : World} {x : Operand} {T T' : TypeId} {u v : Value} (ho : o.op = .convert T T' x) (hx : E x = some u) (hr : (convert T T' u).run P w = .ok v w') : Runs P E o w v w' := fun ρ h => by
  unfold execOp; simp only [ho]; rw [h _ _ hx]; simp only [Sem.run_bind, hr, Result.andThen_ok]; rfl
/-- What a writer's methods leave as it was. -/
structure Wt (B : Nat) (w w' : World) : Prop where
  below : Below (min B w.heap.size) w w'
  keep : ∀ k t cs, Blk w k t cs → t ≠ 112 → t ≠ 5 → Blk w' k t cs
section
variable {B : Nat} {w w' w'' : World}
theorem Wt.refl (B : Nat) (w : World) : Wt B w w := ⟨Below.refl _ _, fun _ _ _ h _ _ => h⟩
theorem Wt.trans (h : Wt B w w') (k : Wt B w' w'') : Wt B w w'' := ⟨h.below.trans (k.below.mono (by have := h.below.size; omega)), fun i t cs hb h1 h2 => k.keep i t cs (h.keep i t cs hb h1 h2) h1 h2⟩
theorem Wt.grow (h : Below w.heap.size w w') : Wt B w w' := ⟨h.mono (Nat.min_le_right _ _), fun _ _ _ hb _ _ => hb.step h⟩
theorem Wt.step (h : Wt B w w') (k : Below w'.heap.size w' w'') : Wt B w w'' := h.trans (Wt.grow k)
theorem Wt.wt (h : Wt B w w') (k : Wt B w' w'') : Wt B w w'' := h.trans k
theorem Wt.to (h : Wt B w w') (hB : B ≤ w.heap.size) : Below B w w' := by have := h.below; rwa [Nat.min_eq_left hB] at this
theorem Wt.put0 {g : Nat} {T : TypeId} {cur cs : Array Value} (h : Wt B w w') (k : Blk w' g T cur) (p : Put w' w'' g T cs) (hB : B ≤ g) (hT : T = 112 ∨ T = 5) : Wt B w w'' :=
  h.trans ⟨(p.below hB k.lt).mono (Nat.min_le_left _ _), fun i t cs hb h1 h2 => hb.put p (hb.ne k (by rcases hT with rfl | rfl <;> assumption))⟩
theorem Wt.put {g : Nat} {T : TypeId} {cur cs : Array Value} (h : Wt B w w') (k : Blk w' g T cur) (p : Put w' w'' g T cs) (e : w.heap.size ≤ g) : Wt B w w'' :=
  ⟨h.below.trans (p.below (by omega) k.lt), fun i t cs hb h1 h2 => (h.keep i t cs hb h1 h2).put p (by have := hb.lt; omega)⟩
theorem Blk.wt {k : Nat} {t : TypeId} {cs : Array Value} (h : Blk w k t cs) (f : Wt B w w') (h1 : t ≠ 112 := by decide) (h2 : t ≠ 5 := by decide) : Blk w' k t cs := f.keep k t cs h h1 h2
theorem App.wt {n : Nat} {v : Value} {xs : List Value} (h : App w w' B v) (o : Own w B 5 1 v n xs) : Wt B w w' :=
  ⟨h.below.mono (Nat.min_le_left _ _), fun i t cs hb _ h2 => hb.grown h.grown (fun e => own_blk_ne o.row hb (fun e => h2 e.symm) e.symm)⟩
end
/-- A writer, and what it has written. -/
structure Bw (w : World) (B g : Nat) (bs : List Nat) : Prop where
  ge : B ≤ g
  bytes : ∀ d ∈ bs, d < 256
  cell : ∃ p v, (p = .pointer none ∨ p = .pointer (some ⟨g, 0, none⟩)) ∧ Blk w g 112 #[p, v] ∧ Own w B 5 1 v bs.length (Bt bs) ∧ (bs = [] → v = .slice none 0 0)
theorem Bw.size {w : World} {B g : Nat} {bs : List Nat} (h : Bw w B g bs) : B ≤ w.heap.size := by
  obtain ⟨p, v, -, hb, -⟩ := h.cell
  have := hb.lt
  have := h.ge
  omega
theorem Bw.step {w w' : World} {B g : Nat} {bs : List Nat} (h : Bw w B g bs) (k : Below w.heap.size w w') : Bw w' B g bs := by
  obtain ⟨p, v, hp, hb, ho, hz⟩ := h.cell
  exact ⟨h.ge, h.bytes, p, v, hp, hb.step k, ho.step k, hz⟩
theorem Bw.put {w w' : World} {B B' g g' : Nat} {bs : List Nat} {T : TypeId} {cur cs : Array Value} (h : Bw w B g bs) (k : Blk w g' T cur) (p : Put w w' g' T cs) (_e : B' ≤ g') (h1 : 112 ≠ T := by decide) (h2 : 5 ≠ T := by decide) : Bw w' B g bs := by
  obtain ⟨q, v, hp, hb, ho, hz⟩ := h.cell
  exact ⟨h.ge, h.bytes, q, v, hp, hb.put p (hb.ne k h1), ho.put k p _e h2, hz⟩
theorem noEscape_here (x : Value) (w : World) : (callFunc 157 [x].toArray).run Try.prog w = .ok (.value x) w := by
  rw [run_callFunc_extern Try.func157 (by kernel_rfl) (by kernel_rfl) (by kernel_rfl) (e := Extern.AbiNoEscape.same) (by kernel_rfl), Lib.run_noEscape]
  rfl
theorem copyCheck_any (B g : Nat) (bs : List Nat) (w : World) (h : Bw w B g bs) : Calls Try.prog 128 #[.pointer (some ⟨g, 0, none⟩)] w fun e w' => e = .returned (.tuple #[]) ∧ Wt B w w' ∧ Bw w' B g bs := by
  obtain ⟨p, v, hp, k0, own, hz⟩ := h.cell
  have k00 := k0
  have hsh : ∀ W p, Blk W g 112 #[p, v] → W.shape? g = some (112, 2) := fun W p hb => by
    have hb : W.heap[g]? = some (.cells #[p, v] 112 (0, 0)) := hb
    simp [World.shape?, hb]
  obtain ⟨j, hj, hjs⟩ := sizeIs_spec (P := Try.prog) (t := 110) (n := 2) (by kernel_rfl)
  rcases hp with rfl | rfl
  · have hto := Lib.run_to_unsafe (P := Try.prog) w (src := 107) (dst := 180) (a := ⟨g, 0, none⟩) Try.underlying107 Try.underlying180 hj (by omega) (hsh w _ k0) (show (0 : Nat) < 2 by decide)
    have hfrom := Lib.run_from_unsafe (P := Try.prog) w (dst := 107) (src := 180) (a := ⟨g, 0, none⟩) Try.underlying180 Try.underlying107 hj (hsh w _ k0) (by kernel_rfl)
    refine Calls.start 20 Try.func128 rfl rfl rfl ?_
    refine Cd.seq ?_
    refine Cd.region ?_
    refine Seq.val (Runs.move rfl rfl) rfl rfl rfl ?_
    refine Seq.val (Runs.nilCheck rfl rfl) rfl rfl rfl ?_
    refine Seq.val (Runs.fieldB 0 rfl rfl Try.underlying110 rfl (by kernel_rfl)) rfl rfl rfl ?_
    refine Seq.val (Runs.loadB rfl rfl Try.underlying107 rfl k0 rfl) rfl rfl rfl ?_
    refine Seq.val (Runs.eqlP rfl rfl rfl Try.underlying107) rfl rfl rfl ?_
    refine Seq.nil ?_
    refine Post.weak (F' := [(0, _), (6, _)]) ⟨rfl, rfl, trivial⟩ ?_
    refine Post.then_ ?_
    refine Cd.condT rfl rfl ?_
    refine Cd.region ?_
    refine Seq.val (Runs.move rfl rfl) rfl rfl rfl ?_
    refine Seq.val (Runs.move rfl rfl) rfl rfl rfl ?_
    refine Seq.val (Runs.conv_ rfl rfl hto) rfl rfl rfl ?_
    refine Seq.val (Runs.here rfl rfl rfl (noEscape_here _ _)) rfl rfl rfl ?_
    refine Seq.val (Runs.conv_ rfl rfl hfrom) rfl rfl rfl ?_
    refine Seq.val (Runs.nilCheck rfl rfl) rfl rfl rfl ?_
    refine Seq.val (Runs.fieldB 0 rfl rfl Try.underlying110 rfl (by kernel_rfl)) rfl rfl rfl ?_
    refine Seq.store1 rfl rfl rfl (by kernel_rfl) rfl rfl k0 rfl rfl rfl ?_
    intro w1 pw1
    replace k0 := pw1.blk
    refine Seq.nil ?_
    refine Post.weak (F' := [(0, _), (6, _)]) ⟨rfl, rfl, trivial⟩ ?_
    refine Post.end0 rfl (.inr rfl) ?_
    exact ⟨rfl, (Wt.refl B w).put0 k00 pw1 h.ge (.inl rfl), h.ge, h.bytes, _, v, .inr rfl, k0, own.put (B' := B) k00 pw1 h.ge, hz⟩
  · refine Calls.start 20 Try.func128 rfl rfl rfl ?_
    refine Cd.seq ?_
    refine Cd.region ?_
    refine Seq.val (Runs.move rfl rfl) rfl rfl rfl ?_
    refine Seq.val (Runs.nilCheck rfl rfl) rfl rfl rfl ?_
    refine Seq.val (Runs.fieldB 0 rfl rfl Try.underlying110 rfl (by kernel_rfl)) rfl rfl rfl ?_
    refine Seq.val (Runs.loadB rfl rfl Try.underlying107 rfl k0 rfl) rfl rfl rfl ?_
    refine Seq.val (Runs.eqlP rfl rfl rfl Try.underlying107) rfl rfl rfl ?_
    refine Seq.nil ?_
    refine Post.weak (F' := [(0, _), (6, _)]) ⟨rfl, rfl, trivial⟩ ?_
    refine Post.then_ ?_
    refine Cd.condF rfl rfl ?_
    refine Cd.seq ?_
    refine Cd.region ?_
    refine Seq.val (Runs.move rfl rfl) rfl rfl rfl ?_
    refine Seq.val (Runs.nilCheck rfl rfl) rfl rfl rfl ?_
    refine Seq.val (Runs.fieldB 0 rfl rfl Try.underlying110 rfl (by kernel_rfl)) rfl rfl rfl ?_
    refine Seq.val (Runs.loadB rfl rfl Try.underlying107 rfl k0 rfl) rfl rfl rfl ?_
    refine Seq.val (Runs.move rfl rfl) rfl rfl rfl ?_
    refine Seq.val (Runs.bin rfl rfl rfl rfl (Lib.run_neq_ptr_same w _ Try.underlying107 hj)) rfl rfl rfl ?_
    refine Seq.nil ?_
    refine Post.weak (F' := [(0, _), (6, _), (19, _)]) ⟨rfl, rfl, rfl, trivial⟩ ?_
    refine Post.then_ ?_
    refine Cd.condF rfl rfl ?_
    refine Cd.skip ?_
    refine Post.end0 rfl (.inr rfl) ?_
    exact ⟨rfl, Wt.refl B w, h⟩
theorem strCells_Bt {s : List Nat} (hs : ∀ d ∈ s, d < 256) : Lib.strCells (strOf s) = Bt s := by
  unfold Lib.strCells Bt
  rw [strOf_data, List.map_map]
  refine List.map_congr_left fun d hd => ?_
  show Value.int .u8 ((UInt8.ofNat d).toNat : Int) = .int .u8 (d : Int)
  rw [ofNat_toNat (hs d hd)]
theorem Seq.appendS {P : Program} {ops : Array Oper} {Q : Exit → Act → World → Prop} {rest : List Oper} {o : Oper} {n d : Nat} {F : List (Nat × Value)} {w : World} {v : Value} {x y : Operand} {t u e B : Nat} {k : Nat} {xs : List Value} {s : List Nat} (ho : o.op = .call { callee := .builtin .append, args := #[x, y], argTypes := #[t, u] }) (hx : evF F x = some v) (hy : evF F y = some (.string (strOf s))) (ht : P.underlying t = some (.slice e)) (hu : P.underlying u = some .string) (hs : sizeIs P e 1 = true) (hz : zeroIs P e = some (some (.int .u8 0))) (hby : (P.info? e).map (·.bytes) = some 1)
    (hown : Own w B e 1 v k xs) (hsb : ∀ d ∈ s, d < 256) (hB : B ≤ w.heap.size) (h63 : k + s.length ≤ 1000000000) (hg : o.guard = none) (hd : o.dst = some d) (hn : Nat.blt d n = true)
    (h : ∀ v' w', Own w' B e 1 v' (k + s.length) (xs ++ Bt s) → App w w' B v → (v' = .slice none 0 0 ↔ v = .slice none 0 0 ∧ s.length = 0) → Seq P ops Q rest n ((d, v') :: F) w') : Seq P ops Q (o :: rest) n F w := by
  obtain ⟨i, hi, hisz⟩ := sizeIs_spec hs
  have hz' : i.zero = some (.int .u8 0) := by unfold zeroIs at hz; rw [hi] at hz; injection hz
  have hb' : i.bytes = 1 := by rw [hi] at hby; injection hby
  obtain ⟨v', w', hrun, h2, h3, h4⟩ := Lib.run_append_own_string (P := P) w B t u o.type e i ht hu hi hz' hisz hb' v k xs hown.row (strOf s) (by rw [strOf_size]; simp only [maxLen]; omega) (by rw [strOf_size]; omega) hB
  rw [strOf_size] at h2 h4
  rw [strCells_Bt hsb] at h2
  refine Seq.val (v := v') (w' := w') (fun ρ hρ => ?_) hg hd hn (h v' w' ⟨h2⟩ ⟨?_, h3⟩ h4)
  · unfold execOp
    simp only [ho, resolve, invoke, builtin, Sem.run_bind, Sem.run_pure, Result.andThen_ok, List.map_toArray, List.map_cons, List.map_nil, hρ _ _ hx, hρ _ _ hy, hrun]
  · refine ⟨h3.os, h3.tape, h3.output, h3.size, fun j hj => h3.block j (by omega) fun e' => ?_⟩
    rcases hown.row.2 with ⟨rfl, _⟩ | ⟨g, cap, cur, rfl, hBg, _⟩
    · cases e'
    · injection e' with e'
      have : j = g := e'
      omega
def WrRet (B g : Nat) (bs : List Nat) (w : World) (e : Ending) (w' : World) : Prop := (∃ v, e = .returned v) ∧ Wt B w w' ∧ Bw w' B g bs
theorem writeS_both (B g : Nat) (s bs : List Nat) (w : World) (h : Bw w B g bs) (hs : ∀ d ∈ s, d < 256) (hl : bs.length + s.length ≤ 1000000000) :
    Calls Try.prog 78 #[.pointer (some ⟨g, 0, none⟩), .string (strOf s)] w (WrRet B g (bs ++ s) w) ∧ ∀ u, CallsD Try.prog 78 #[.pointer (some ⟨g, 0, none⟩), .string (strOf s)] u w fun e u' w' => u' = u ∧ WrRet B g (bs ++ s) w e w' := by
  have wt := Wt.refl B w
  have wr := h
  refine (fun key => ⟨Calls.start 19 Try.func78 rfl rfl rfl key, fun u => CallsD.start 19 Try.func78 rfl rfl rfl key⟩) ?_
  refine Cd.seq ?_
  refine Cd.region ?_
  refine Seq.val (Runs.assign rfl rfl) rfl rfl rfl ?_
  refine Seq.val (Runs.assign rfl rfl) rfl rfl rfl ?_
  refine Seq.nil ?_
  refine Post.weak (F' := [(0, _), (1, _), (4, _), (5, _)]) ⟨rfl, rfl, rfl, rfl, trivial⟩ ?_
  refine Post.then_ ?_
  refine Cd.seq ?_
  refine Cd.region ?_
  refine Seq.val (Runs.move rfl rfl) rfl rfl rfl ?_
  refine Seq.call (Enters.func rfl rfl rfl (run_enter Try.func128 (by kernel_rfl) rfl)) rfl rfl rfl (copyCheck_any B g bs _ wr) ?_
  clear wr
  rintro e w1 ⟨rfl, fw1, wr⟩
  refine ⟨_, rfl, ?_⟩
  replace wt := wt.wt fw1
  obtain ⟨p, v, hp, k0, own, hz⟩ := wr.cell
  refine Seq.nil ?_
  refine Post.weak (F' := [(0, _), (1, _), (4, _), (5, _)]) ⟨rfl, rfl, rfl, rfl, trivial⟩ ?_
  refine Post.then_ ?_
  refine Cd.seq ?_
  refine Cd.region ?_
  refine Seq.val (Runs.move rfl rfl) rfl rfl rfl ?_
  refine Seq.val (Runs.move rfl rfl) rfl rfl rfl ?_
  refine Seq.val (Runs.nilCheck rfl rfl) rfl rfl rfl ?_
  refine Seq.val (Runs.fieldB 1 rfl rfl Try.underlying110 rfl (by kernel_rfl)) rfl rfl rfl ?_
  refine Seq.val (Runs.loadB rfl rfl Try.underlying108 rfl k0 rfl) rfl rfl rfl ?_
  refine Seq.val (Runs.move rfl rfl) rfl rfl rfl ?_
  refine Seq.appendS rfl rfl rfl Try.underlying108 Try.underlying9 (by kernel_rfl) zero_uint8 (by kernel_rfl) own hs wr.size hl rfl rfl rfl ?_
  intro v2 w2 own2 ha2 hv2
  have k1 := k0.grown ha2.grown (fun e => own_blk_ne own.row k0 (by decide) e.symm)
  have wt2 := wt.trans (ha2.wt own)
  clear k0 wt
  have k0 := k1
  have wt := wt2
  obtain ⟨A2, c2, rfl, -⟩ := own2.reads
  refine Seq.val (Runs.nilCheck rfl rfl) rfl rfl rfl ?_
  refine Seq.val (Runs.fieldB 1 rfl rfl Try.underlying110 rfl (by kernel_rfl)) rfl rfl rfl ?_
  refine Seq.store1 rfl rfl rfl (by kernel_rfl) rfl rfl k0 rfl rfl rfl ?_
  intro w2 pw2
  replace k0 := pw2.blk
  refine Seq.nil ?_
  refine Post.weak (F' := [(0, _), (1, _), (4, _), (5, _)]) ⟨rfl, rfl, rfl, rfl, trivial⟩ ?_
  refine Post.then_ ?_
  refine Cd.seq ?_
  refine Cd.region ?_
  refine Seq.val (Runs.move rfl rfl) rfl rfl rfl ?_
  refine Seq.val (Runs.lenL rfl rfl Try.underlying9) rfl rfl rfl ?_
  refine Seq.val (Runs.assign rfl rfl) rfl rfl rfl ?_
  refine Seq.val (Runs.assign rfl rfl) rfl rfl rfl ?_
  refine Seq.nil ?_
  refine Post.weak (F' := [(0, _), (1, _), (4, _), (5, _)]) ⟨rfl, rfl, rfl, rfl, trivial⟩ ?_
  refine Post.then_ ?_
  refine Cd.ret ?_
  refine Post.end2 rfl rfl rfl (.inl rfl) ?_
  refine ⟨⟨_, rfl⟩, wt.put0 k1 pw2 h.ge (.inl rfl), h.ge, fun d hd => ?_, p, _, hp, k0, ?_, fun hnil => ?_⟩
  · rcases List.mem_append.1 hd with hd | hd
    · exact h.bytes d hd
    · exact hs d hd
  · rw [Bt_append, List.length_append]
    exact own2.put (B' := B) k1 pw2 h.ge
  · rw [hv2]
    have := congrArg List.length hnil
    simp at this
    exact ⟨hz this.1, by rw [this.2]; rfl⟩
theorem blen_any (B g : Nat) (bs : List Nat) (w : World) (h : Bw w B g bs) : Calls Try.prog 73 #[.pointer (some ⟨g, 0, none⟩)] w fun e w' => e = .returned (.int .i64 (bs.length : Int)) ∧ Grow w w' := by
  obtain ⟨p, v, hp, k0, own, hz⟩ := h.cell
  have bel := Below.refl w.heap.size w
  obtain ⟨A, c, rfl, -⟩ := own.reads
  refine Calls.start 8 Try.func73 rfl rfl rfl ?_
  refine Cd.seq ?_
  refine Cd.region ?_
  refine Seq.val (Runs.assign rfl rfl) rfl rfl rfl ?_
  refine Seq.nil ?_
  refine Post.weak (F' := [(0, _), (2, _)]) ⟨rfl, rfl, trivial⟩ ?_
  refine Post.then_ ?_
  refine Cd.seq ?_
  refine Cd.region ?_
  refine Seq.val (Runs.move rfl rfl) rfl rfl rfl ?_
  refine Seq.val (Runs.nilCheck rfl rfl) rfl rfl rfl ?_
  refine Seq.val (Runs.fieldB 1 rfl rfl Try.underlying110 rfl (by kernel_rfl)) rfl rfl rfl ?_
  refine Seq.val (Runs.loadB rfl rfl Try.underlying108 rfl k0 rfl) rfl rfl rfl ?_
  refine Seq.val (Runs.len rfl rfl Try.underlying108) rfl rfl rfl ?_
  refine Seq.val (Runs.assign rfl rfl) rfl rfl rfl ?_
  refine Seq.nil ?_
  refine Post.weak (F' := [(0, _), (2, _)]) ⟨rfl, rfl, trivial⟩ ?_
  refine Post.then_ ?_
  refine Cd.ret ?_
  refine Post.end1 rfl rfl (.inl rfl) ?_
  exact ⟨rfl, bel⟩
end Go.Proofs.Ytijaldpmpjapiaa
