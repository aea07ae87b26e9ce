/-
  The rest of a guarded chain ('a or b or ..') behind a test that decides it, in one step.
-/
import Derived.WalkKit
namespace Go.Proofs.Ythcimkhnijnmgaa.Lv
open Go.RowKit

def valOf : Option Bool → Value
  | some b => .bool b
  | none => undef
def envVal (e : List (Nat × Option Bool)) : Operand → Option Bool
  | .tmp s => (e.lookup s).join
  | .const (.bool b) => some b
  | _ => none
def tailVal (e : List (Nat × Option Bool)) : Op → Option Bool
  | .move x => envVal e x
  | .assign x => envVal e x
  | .pick c x y => match envVal e c with
    | some true => envVal e x
    | some false => envVal e y
    | none => none
  | _ => none
def tailStep (ops : Array Oper) (e : List (Nat × Option Bool)) (o : Oper) : Option (Option Bool) :=
  match o.guard with
  | none => (tailVal e o.op).map some
  | some (j, want) =>
    match (ops[j]?).bind (·.dst) with
    | none => none
    | some s => match e.lookup s with
      | some (some b) => if b = want then (tailVal e o.op).map some else some none
      | some none => some none
      | none => none
def tailPlan (ops : Array Oper) (n : Nat) : List Oper → List (Nat × Option Bool) → Option (List (Nat × Option Bool))
  | [], e => some e
  | o :: rest, e => match o.dst with
    | none => none
    | some d => if d < n then (match tailStep ops e o with | none => none | some x => tailPlan ops n rest ((d, x) :: e)) else none
def tailPatch (ops : Array Oper) (n s0 : Nat) (b0 : Bool) (l : List Oper) : Option (List (Option (Option Bool))) := (tailPlan ops n l [(s0, some b0)]).map fun e => (List.range n).map (e.lookup ·)
def mergeP : List Value → List (Option (Option Bool)) → List Value
  | v :: l, some x :: p => valOf x :: mergeP l p
  | v :: l, none :: p => v :: mergeP l p
  | l, [] => l
  | [], _ => []
def Knows (a : Act) (e : List (Nat × Option Bool)) : Prop := ∀ s x, e.lookup s = some x → a.tmps[s]? = some (valOf x)

theorem envVal_eval {a : Act} {e : List (Nat × Option Bool)} (h : Knows a e) (x : Operand) (b : Bool) (hx : envVal e x = some b) : a.eval x = .bool b := by
  match x, hx with
  | .tmp s, hx =>
    have h1 : e.lookup s = some (some b) := by
      simp only [envVal] at hx
      cases hl : e.lookup s with
      | none => rw [hl] at hx; cases hx
      | some y => rw [hl] at hx; exact congrArg some hx
    have := h s _ h1
    show a.tmps.getD s undef = _
    rw [Array.getD_eq_getD_getElem?, this]
    rfl
  | .const (.bool b'), hx => simp only [envVal, Option.some.injEq] at hx; subst hx; rfl
theorem tailVal_wp {P : Program} {o : Oper} {a : Act} {w : World} {K : Act → World → Prop} {Q : Exit → Act → World → Prop} {e : List (Nat × Option Bool)} (h : Knows a e) (b : Bool) (hv : tailVal e o.op = some b) (hk : K (a.put o.dst (.bool b)) w) : o.wp P a w K Q := by
  unfold Oper.wp execOp
  cases hop : o.op <;> rw [hop] at hv <;> simp only [tailVal] at hv <;> try (cases hv; done)
  · rename_i x
    simp only [Sem.run_pure, envVal_eval h x b hv]
    exact hk
  · rename_i x
    simp only [Sem.run_pure, envVal_eval h x b hv]
    exact hk
  · rename_i c x y
    cases hc : envVal e c with
    | none => rw [hc] at hv; cases hv
    | some bc =>
      rw [hc] at hv
      cases bc
      · simp only [envVal_eval h c _ hc, asBool, Sem.run_bind, Sem.run_pure, Result.andThen_ok, Bool.false_eq_true, if_false, envVal_eval h y b hv]
        exact hk
      · simp only [envVal_eval h c _ hc, asBool, Sem.run_bind, Sem.run_pure, Result.andThen_ok, if_true, envVal_eval h x b hv]
        exact hk
theorem tailStep_wp {P : Program} {ops : Array Oper} {rest : List Oper} {o : Oper} {a : Act} {w : World} {Q : Exit → Act → World → Prop} {e : List (Nat × Option Bool)} (h : Knows a e) (x : Option Bool) (hs : tailStep ops e o = some x)
    (hk : wpList P ops Q rest (a.put o.dst (valOf x)) w) : wpList P ops Q (o :: rest) a w := by
  unfold tailStep at hs
  cases hg : o.guard with
  | none =>
    rw [hg] at hs
    simp only [Option.map_eq_some_iff] at hs
    obtain ⟨b, hb, rfl⟩ := hs
    exact wpList_plain hg fun K hK => tailVal_wp h b hb (hK _ _ hk)
  | some jw =>
    obtain ⟨j, want⟩ := jw
    rw [hg] at hs
    simp only at hs
    cases hd : (ops[j]?).bind (·.dst) with
    | none => rw [hd] at hs; cases hs
    | some s =>
      rw [hd] at hs
      simp only at hs
      cases hl : e.lookup s with
      | none => rw [hl] at hs; cases hs
      | some y =>
        rw [hl] at hs
        have hy := h s y hl
        cases y with
        | none =>
          simp only [Option.some.injEq] at hs
          subst hs
          refine wpList_skip ?_ hk
          simp [Region.wanted, hg, yielded, hd, hy, valOf, undef]
        | some b =>
          simp only at hs
          split at hs
          · rename_i hbw
            simp only [Option.map_eq_some_iff] at hs
            obtain ⟨b', hb', rfl⟩ := hs
            refine wpList_step fun K hK => ?_
            have hw : Region.wanted o (yielded ops a.tmps) = true := by simp [Region.wanted, hg, yielded, hd, hy, valOf, hbw]
            rw [if_pos hw]
            exact tailVal_wp h b' hb' (hK _ _ hk)
          · rename_i hbw
            simp only [Option.some.injEq] at hs
            subst hs
            refine wpList_skip ?_ hk
            simp [Region.wanted, hg, yielded, hd, hy, valOf, hbw]
theorem knows_put {a : Act} {e : List (Nat × Option Bool)} (h : Knows a e) (d : Nat) (x : Option Bool) (hd : d < a.tmps.size) : Knows (a.put (some d) (valOf x)) ((d, x) :: e) := by
  intro s y hy
  rw [List.lookup_cons] at hy
  simp only [Act.put]
  by_cases hsd : s = d
  · subst hsd
    simp at hy
    subst hy
    simp [hd]
  · have : (s == d) = false := by simpa using hsd
    rw [this] at hy
    rw [Array.getElem?_setIfInBounds_ne (fun e => hsd e.symm)]
    exact h s y hy
theorem tailPlan_wp {P : Program} {ops : Array Oper} {w : World} {Q : Exit → Act → World → Prop} {n : Nat} : ∀ (l : List Oper) (a : Act) (e e' : List (Nat × Option Bool)), Knows a e → a.tmps.size = n → tailPlan ops n l e = some e' →
    (∀ a' : Act, a'.defers = a.defers → a'.tmps.size = n → Knows a' e' → (∀ s, e'.lookup s = none → a'.tmps[s]? = a.tmps[s]?) → Q .normal a' w) → wpList P ops Q l a w
  | [], a, e, e', hk, hn, hp, hq => by
    simp only [tailPlan, Option.some.injEq] at hp
    subst hp
    exact wpList_nil (hq a rfl hn hk fun _ _ => rfl)
  | o :: rest, a, e, e', hk, hn, hp, hq => by
    simp only [tailPlan] at hp
    cases hd : o.dst with
    | none => rw [hd] at hp; cases hp
    | some d =>
      rw [hd] at hp
      simp only at hp
      split at hp
      · rename_i hdn
        cases hs : tailStep ops e o with
        | none => rw [hs] at hp; cases hp
        | some x =>
          rw [hs] at hp
          simp only at hp
          refine tailStep_wp hk x hs ?_
          rw [hd]
          refine tailPlan_wp rest _ _ e' (knows_put hk d x (by rw [hn]; exact hdn)) (by simp [Act.put, hn]) hp ?_
          intro a' h1 h2 h3 h4
          refine hq a' (by rw [h1]; rfl) h2 h3 fun s hs' => ?_
          rw [h4 s hs']
          have hmono : ∀ (l : List Oper) (e e' : List (Nat × Option Bool)), tailPlan ops n l e = some e' → ∀ s, e'.lookup s = none → e.lookup s = none := by
            intro l
            induction l with
            | nil => intro e e' hp s hs; simp only [tailPlan, Option.some.injEq] at hp; subst hp; exact hs
            | cons o l ih =>
              intro e e' hp s hs
              simp only [tailPlan] at hp
              split at hp
              · cases hp
              · split at hp
                · split at hp
                  · cases hp
                  · have := ih _ _ hp s hs
                    rw [List.lookup_cons] at this
                    split at this
                    · cases this
                    · exact this
                · cases hp
          have hno := hmono rest _ _ hp s hs'
          rw [List.lookup_cons] at hno
          have hsd : s ≠ d := by
            rintro rfl
            simp at hno
          simp only [Act.put]
          rw [Array.getElem?_setIfInBounds_ne (fun e => hsd e.symm)]
      · cases hp
theorem mergeP_get : ∀ (l : List Value) (p : List (Option (Option Bool))), l.length = p.length → ∀ i : Nat, (mergeP l p)[i]? = match p[i]? with | some (some x) => some (valOf x) | _ => l[i]?
  | [], [], _, i => by simp [mergeP]
  | v :: l, some x :: p, h, i => by
    simp only [List.length_cons, Nat.add_right_cancel_iff] at h
    cases i with
    | zero => simp [mergeP]
    | succ i => simpa [mergeP] using mergeP_get l p h i
  | v :: l, none :: p, h, i => by
    simp only [List.length_cons, Nat.add_right_cancel_iff] at h
    cases i with
    | zero => simp [mergeP]
    | succ i => simpa [mergeP] using mergeP_get l p h i
/-- The chain's rest: what it leaves in the frame is reckoned from its text alone. -/
theorem wpList_tail {P : Program} {ops : Array Oper} {rest : List Oper} {o : Oper} {l : List Value} {ds : List Deferred} {w : World} {Q : Exit → Act → World → Prop} (n s0 : Nat) (b0 : Bool) {patch : List (Option (Option Bool))}
    (hp : tailPatch ops n s0 b0 (o :: rest) = some patch) (hn : l.length = n) (h0 : l[s0]? = some (.bool b0)) (hq : Q .normal ⟨(mergeP l patch).toArray, ds⟩ w) : wpList P ops Q (o :: rest) ⟨l.toArray, ds⟩ w := by
  unfold tailPatch at hp
  simp only [Option.map_eq_some_iff] at hp
  obtain ⟨e', he, rfl⟩ := hp
  refine tailPlan_wp _ _ _ e' (fun s x hx => ?_) (by simpa using hn) he fun a' h1 h2 h3 h4 => ?_
  · rw [List.lookup_cons] at hx
    split at hx
    · rename_i hs
      have : s = s0 := by simpa using hs
      subst this
      injection hx with hx
      subst hx
      simpa [valOf] using h0
    · simp at hx
  · have ha : a' = ⟨(mergeP l ((List.range n).map (e'.lookup ·))).toArray, ds⟩ := by
      obtain ⟨t, d⟩ := a'
      simp only at h1 h2 h3 h4
      subst h1
      congr 1
      apply Array.ext_getElem?
      intro i
      have e3 := mergeP_get l ((List.range n).map (e'.lookup ·)) (by simpa using hn) i
      have e4 : ((mergeP l ((List.range n).map (e'.lookup ·))).toArray)[i]? = (mergeP l ((List.range n).map (e'.lookup ·)))[i]? := by simp
      rw [e4, e3]
      by_cases hi : i < n
      · simp only [List.getElem?_map, List.getElem?_range hi, Option.map_some]
        cases hl : e'.lookup i with
        | none => simpa using h4 i hl
        | some x => simpa using h3 i x hl
      · have e1 : t[i]? = none := Array.getElem?_eq_none (by simpa [h2] using Nat.le_of_not_lt hi)
        have e2 : ((List.range n).map (e'.lookup ·))[i]? = none := by simp; omega
        rw [e1, e2]
        simp
        omega
    rw [ha] at *
    exact hq
end Go.Proofs.Ythcimkhnijnmgaa.Lv
