/-
  A way of walking: what is known of a frame is a list of slots and values; the code's rules over it; regions in the text's order. No condition.
-/
import Derived.Test.YtefpejnmhlhnkaaGreatDoorWords
import Derived.Orders
set_option linter.unusedSectionVars false
namespace Go.Proofs.YtefpejnmhlhnkaaGreatDoor
open Go.RowKit

section
variable [Inhabited (List Deferred)]

def look : List (Nat × Value) → Nat → Option Value
  | [], _ => none
  | (k, v) :: r, t => bif Nat.beq k t then some v else look r t
def evF (F : List (Nat × Value)) : Operand → Option Value
  | .tmp t => look F t
  | .const v => some v
  | .global g => some (.pointer (some ⟨g, 0, none⟩))
  | .func f => some (.func (.func f) #[] #[])
/-- What is known of a frame. -/
structure Fr (n : Nat) (F : List (Nat × Value)) (a : Act) : Prop where
  size : a.tmps.size = n
  defers : a.defers = default
  slot : ∀ t v, look F t = some v → a.tmps[t]? = some v
theorem Fr.ev {n : Nat} {F : List (Nat × Value)} {a : Act} (h : Fr n F a) : ∀ x u, evF F x = some u → a.eval x = u := by
  intro x u hx
  cases x with
  | tmp t => have := h.slot t u hx; simp [Act.eval, this]
  | const v => exact Option.some.inj hx
  | global g => exact Option.some.inj hx
  | func f => exact Option.some.inj hx
theorem look_put {F : List (Nat × Value)} {d t : Nat} {v u : Value} (h : look ((d, v) :: F) t = some u) : (d = t ∧ v = u) ∨ (d ≠ t ∧ look F t = some u) := by
  unfold look at h
  cases hb : Nat.beq d t with
  | true => rw [hb] at h; exact .inl ⟨Nat.eq_of_beq_eq_true hb, Option.some.inj h⟩
  | false => rw [hb] at h; exact .inr ⟨Nat.ne_of_beq_eq_false hb, h⟩
theorem Fr.put {n d : Nat} {F : List (Nat × Value)} {a : Act} {v : Value} (h : Fr n F a) (hd : d < n) : Fr n ((d, v) :: F) (a.put (some d) v) := by
  refine ⟨by simp [Act.put, h.size], h.defers, fun t u hu => ?_⟩
  rcases look_put hu with ⟨rfl, rfl⟩ | ⟨hne, hu⟩
  · simp [Act.put, h.size, hd]
  · simp only [Act.put]
    rw [Array.getElem?_setIfInBounds_ne hne]
    exact h.slot t u hu
/-- All of F' is in F. -/
def Sub : List (Nat × Value) → List (Nat × Value) → Prop
  | [], _ => True
  | (t, v) :: r, F => look F t = some v ∧ Sub r F
theorem Sub.spec {F : List (Nat × Value)} : ∀ {F' : List (Nat × Value)}, Sub F' F → ∀ t v, look F' t = some v → look F t = some v
  | [], _, _, _, h => by simp [look] at h
  | (k, u) :: r, hs, t, v, h => by
    rcases look_put h with ⟨rfl, rfl⟩ | ⟨_, h⟩
    · exact hs.1
    · exact Sub.spec hs.2 t v h
theorem Fr.sub {n : Nat} {F F' : List (Nat × Value)} {a : Act} (h : Fr n F a) (hs : Sub F' F) : Fr n F' a := ⟨h.size, h.defers, fun t v ht => h.slot t v (hs.spec t v ht)⟩

/-- What an operation does, its operands being known. -/
def Runs (P : Program) (E : Operand → Option Value) (o : Oper) (w : World) (v : Value) (w' : World) : Prop := ∀ ρ : Operand → Value, (∀ x u, E x = some u → ρ x = u) → (execOp ρ o).run P w = .ok (.value v) w'
def RunsU (P : Program) (E : Operand → Option Value) (o : Oper) (w w' : World) : Prop := ∀ ρ : Operand → Value, (∀ x u, E x = some u → ρ x = u) → (execOp ρ o).run P w = .ok .skip w'
def Enters (P : Program) (E : Operand → Option Value) (o : Oper) (w : World) (f : FuncId) (args : Array Value) : Prop := ∀ ρ : Operand → Value, (∀ x u, E x = some u → ρ x = u) → (execOp ρ o).run P w = .ok (.enter f args) w

/-- The operations of a region, in the text's order. -/
def Seq (P : Program) (ops : Array Oper) (Q : Exit → Act → World → Prop) (rest : List Oper) (n : Nat) (F : List (Nat × Value)) (w : World) : Prop := ∀ a, Fr n F a → wpList P ops Q rest a w
/-- A piece of code. -/
def Cd (P : Program) (c : Code) (Q : Exit → Act → World → Prop) (n : Nat) (F : List (Nat × Value)) (w : World) : Prop := ∀ a, Fr n F a → c.wp P Q a w
/-- An end. -/
def Post (Q : Exit → Act → World → Prop) (e : Exit) (n : Nat) (F : List (Nat × Value)) (w : World) : Prop := ∀ a, Fr n F a → Q e a w

section
variable {P : Program} {ops : Array Oper} {Q : Exit → Act → World → Prop} {rest : List Oper} {o : Oper} {n d : Nat} {F F' : List (Nat × Value)} {w w' : World} {v : Value}

theorem Seq.val (hrun : Runs P (evF F) o w v w') (hg : o.guard = none) (hd : o.dst = some d) (hn : Nat.blt d n = true) (h : Seq P ops Q rest n ((d, v) :: F) w') : Seq P ops Q (o :: rest) n F w := by
  intro a ha
  refine wpList_plain hg fun K hK => ?_
  unfold Oper.wp
  rw [hrun a.eval ha.ev, Oper.upon_value, hd]
  exact hK _ _ (h _ (ha.put (Nat.blt_eq.mp hn)))
theorem Seq.val0 (hrun : Runs P (evF F) o w v w') (hg : o.guard = none) (hd : o.dst = none) (h : Seq P ops Q rest n F w') : Seq P ops Q (o :: rest) n F w := by
  intro a ha
  refine wpList_plain hg fun K hK => ?_
  unfold Oper.wp
  rw [hrun a.eval ha.ev, Oper.upon_value, hd]
  exact hK _ _ (h _ ha)
theorem Seq.unit (hrun : RunsU P (evF F) o w w') (hg : o.guard = none) (hd : o.dst = none) (h : Seq P ops Q rest n F w') : Seq P ops Q (o :: rest) n F w := by
  intro a ha
  refine wpList_plain hg fun K hK => ?_
  unfold Oper.wp
  rw [hrun a.eval ha.ev, Oper.upon_skip, hd]
  exact hK _ _ (h _ ha)
theorem Seq.call {f : FuncId} {args : Array Value} {R : Ending → World → Prop} (he : Enters P (evF F) o w f args) (hg : o.guard = none) (hd : o.dst = some d) (hn : Nat.blt d n = true) (hc : Calls P f args w R)
    (h : ∀ e w', R e w' → ∃ v, e = .returned v ∧ Seq P ops Q rest n ((d, v) :: F) w') : Seq P ops Q (o :: rest) n F w := by
  intro a ha
  refine wpList_plain hg fun K hK => ?_
  unfold Oper.wp
  rw [he a.eval ha.ev, Oper.upon_enter, hd]
  refine hc.mono fun e w' hR => ?_
  obtain ⟨v, rfl, hs⟩ := h e w' hR
  exact hK _ _ (hs _ (ha.put (Nat.blt_eq.mp hn)))
theorem Seq.call0 {f : FuncId} {args : Array Value} {R : Ending → World → Prop} (he : Enters P (evF F) o w f args) (hg : o.guard = none) (hd : o.dst = none) (hc : Calls P f args w R)
    (h : ∀ e w', R e w' → ∃ v, e = .returned v ∧ Seq P ops Q rest n F w') : Seq P ops Q (o :: rest) n F w := by
  intro a ha
  refine wpList_plain hg fun K hK => ?_
  unfold Oper.wp
  rw [he a.eval ha.ev, Oper.upon_enter, hd]
  refine hc.mono fun e w' hR => ?_
  obtain ⟨v, rfl, hs⟩ := h e w' hR
  exact hK _ _ (hs _ ha)
/-- A guarded operation that is wanted, or not. -/
theorem Seq.valG {j : Nat} {b : Bool} {t : Nat} (hrun : Runs P (evF F) o w v w') (hg : o.guard = some (j, b)) (ht : (ops[j]?).bind (·.dst) = some t) (hb : look F t = some (.bool b)) (hd : o.dst = some d) (hn : Nat.blt d n = true) (h : Seq P ops Q rest n ((d, v) :: F) w') : Seq P ops Q (o :: rest) n F w := by
  intro a ha
  refine wpList_step fun K hK => ?_
  have hw : Region.wanted o (yielded ops a.tmps) = true := by
    unfold Region.wanted yielded
    simp only [hg, ht, Option.bind_some, ha.slot t _ hb]
    simp
  rw [if_pos hw]
  unfold Oper.wp
  rw [hrun a.eval ha.ev, Oper.upon_value, hd]
  exact hK _ _ (h _ (ha.put (Nat.blt_eq.mp hn)))
theorem Seq.callG {j : Nat} {b : Bool} {t : Nat} {f : FuncId} {args : Array Value} {R : Ending → World → Prop} (he : Enters P (evF F) o w f args) (hg : o.guard = some (j, b)) (ht : (ops[j]?).bind (·.dst) = some t) (hb : look F t = some (.bool b)) (hd : o.dst = some d) (hn : Nat.blt d n = true) (hc : Calls P f args w R)
    (h : ∀ e w', R e w' → ∃ v, e = .returned v ∧ Seq P ops Q rest n ((d, v) :: F) w') : Seq P ops Q (o :: rest) n F w := by
  intro a ha
  refine wpList_step fun K hK => ?_
  have hw : Region.wanted o (yielded ops a.tmps) = true := by
    unfold Region.wanted yielded
    simp only [hg, ht, Option.bind_some, ha.slot t _ hb]
    simp
  rw [if_pos hw]
  unfold Oper.wp
  rw [he a.eval ha.ev, Oper.upon_enter, hd]
  refine hc.mono fun e w' hR => ?_
  obtain ⟨v, rfl, hs⟩ := h e w' hR
  exact hK _ _ (hs _ (ha.put (Nat.blt_eq.mp hn)))
theorem Seq.skipG {j : Nat} {b b' : Bool} {t : Nat} (hg : o.guard = some (j, b)) (ht : (ops[j]?).bind (·.dst) = some t) (hb : look F t = some (.bool b')) (hne : b' = !b) (hd : o.dst = some d) (hn : Nat.blt d n = true) (h : Seq P ops Q rest n ((d, undef) :: F) w) : Seq P ops Q (o :: rest) n F w := by
  intro a ha
  refine wpList_step fun K hK => ?_
  have hw : Region.wanted o (yielded ops a.tmps) = false := by
    unfold Region.wanted yielded
    simp only [hg, ht, Option.bind_some, ha.slot t _ hb, hne]
    cases b <;> rfl
  rw [if_neg (by rw [hw]; simp), hd]
  exact hK _ _ (h _ (ha.put (Nat.blt_eq.mp hn)))
/-- The same region, one of its slots being wanted of which the guarded operations before it are skipped. -/
theorem Seq.skipGs {j : Nat} {b b' : Bool} {t : Nat} (hg : o.guard = some (j, b)) (ht : (ops[j]?).bind (·.dst) = some t) (hb : look F t = some (.bool b')) (hne : b' = !b) (hd : o.dst = none) (h : Seq P ops Q rest n F w) : Seq P ops Q (o :: rest) n F w := by
  intro a ha
  refine wpList_step fun K hK => ?_
  have hw : Region.wanted o (yielded ops a.tmps) = false := by
    unfold Region.wanted yielded
    simp only [hg, ht, Option.bind_some, ha.slot t _ hb, hne]
    cases b <;> rfl
  rw [if_neg (by rw [hw]; simp), hd]
  exact hK _ _ (h _ ha)

theorem Seq.nil (h : Post Q .normal n F w) : Seq P ops Q [] n F w := fun a ha => wpList_nil (h a ha)
theorem Seq.weak (hs : Sub F' F) (h : Seq P ops Q rest n F' w) : Seq P ops Q rest n F w := fun a ha => h a (ha.sub hs)
theorem Cd.weak {c : Code} (hs : Sub F' F) (h : Cd P c Q n F' w) : Cd P c Q n F w := fun a ha => h a (ha.sub hs)
theorem Post.weak {e : Exit} (hs : Sub F' F) (h : Post Q e n F' w) : Post Q e n F w := fun a ha => h a (ha.sub hs)

theorem Cd.region {id : Nat} {l : List Oper} (h : Seq P l.toArray Q l n F w) : Cd P (.region id l.toArray false) Q n F w := fun a ha => wp_region_lit (h a ha)
theorem Cd.seq {x y : Code} (h : Cd P x (Exit.then (y.wp P Q) Q) n F w) : Cd P (.seq x y) Q n F w := fun a ha => wp_seq (h a ha)
theorem Cd.cond {c : Operand} {x y : Code} {b : Bool} (hc : evF F c = some (.bool b)) (ht : b = true → Cd P x Q n F w) (hf : b = false → Cd P y Q n F w) : Cd P (.cond c x y) Q n F w :=
  fun a ha => wp_cond_split (ha.ev _ _ hc) (fun h => ht h a ha) (fun h => hf h a ha)
theorem Cd.condD {c : Operand} {x y : Code} {p : Prop} [Decidable p] (hc : evF F c = some (.bool (decide p))) (ht : p → Cd P x Q n F w) (hf : ¬ p → Cd P y Q n F w) : Cd P (.cond c x y) Q n F w :=
  Cd.cond hc (fun h => ht (of_decide_eq_true h)) (fun h => hf (of_decide_eq_false h))
theorem Cd.condT {c : Operand} {x y : Code} {b : Bool} (hc : evF F c = some (.bool b)) (hb : b = true) (h : Cd P x Q n F w) : Cd P (.cond c x y) Q n F w := Cd.cond hc (fun _ => h) (fun h0 => by rw [hb] at h0; cases h0)
theorem Cd.condF {c : Operand} {x y : Code} {b : Bool} (hc : evF F c = some (.bool b)) (hb : b = false) (h : Cd P y Q n F w) : Cd P (.cond c x y) Q n F w := Cd.cond hc (fun h0 => by rw [hb] at h0; cases h0) (fun _ => h)
theorem Cd.block {id : Nat} {c : Code} (h : Cd P c (Exit.inBlock id Q) n F w) : Cd P (.block id c) Q n F w := fun a ha => wp_block (h a ha)
theorem Cd.skip (h : Post Q .normal n F w) : Cd P .skip Q n F w := fun a ha => wp_skip (h a ha)
theorem Cd.exit {id : Nat} (h : Post Q (.exit id) n F w) : Cd P (.exit id) Q n F w := fun a ha => wp_exit (h a ha)
theorem Cd.ret (h : Post Q .ret n F w) : Cd P .ret Q n F w := fun a ha => wp_ret (h a ha)

theorem Post.then_ {y : Code} (h : Cd P y Q n F w) : Post (Exit.then (y.wp P Q) Q) .normal n F w := h
theorem Post.then_ret {K : Act → World → Prop} (h : Post Q .ret n F w) : Post (Exit.then K Q) .ret n F w := h
theorem Post.then_exit {K : Act → World → Prop} {id : Nat} (h : Post Q (.exit id) n F w) : Post (Exit.then K Q) (.exit id) n F w := h
theorem Post.block_normal {id : Nat} (h : Post Q .normal n F w) : Post (Exit.inBlock id Q) .normal n F w := h
theorem Post.block_ret {id : Nat} (h : Post Q .ret n F w) : Post (Exit.inBlock id Q) .ret n F w := h
theorem Post.block_exit {id : Nat} (h : Post Q .normal n F w) : Post (Exit.inBlock id Q) (.exit id) n F w := fun a ha => by
  show if id = id then Q .normal a w else Q (.exit id) a w
  rw [if_pos rfl]
  exact h a ha
theorem Post.block_other {id id' : Nat} (hne : Nat.beq id' id = false) (h : Post Q (.exit id') n F w) : Post (Exit.inBlock id Q) (.exit id') n F w := fun a ha => by
  show if id' = id then Q .normal a w else Q (.exit id') a w
  rw [if_neg (Nat.ne_of_beq_eq_false hne)]
  exact h a ha

/-- A loop: σ is whatever changes from round to round. -/
def LoopK {σ : Type} (n : Nat) (vf : σ → List (Nat × Value)) (I : σ → World → Prop) (μ : σ → Nat) (s : σ) (a : Act) (w : World) : Prop := ∃ s', Fr n (vf s') a ∧ I s' w ∧ μ s' < μ s
theorem Cd.loop {σ : Type} {c : Code} (vf : σ → List (Nat × Value)) (I : σ → World → Prop) (μ : σ → Nat) (s0 : σ) (h0 : I s0 w) (hs : Sub (vf s0) F)
    (round : ∀ s w, I s w → Cd P c (Exit.then (LoopK n vf I μ s) Q) n (vf s) w) : Cd P (.loop c) Q n F w := by
  intro a ha b k cs
  have key : ∀ m s a w, μ s = m → I s w → Fr n (vf s) a → ∃ e a' w', Q e a' w' ∧ Arrives P (lone (b.at a (.code c :: .inLoop c :: k)) cs w) b k cs e a' w' := by
    intro m
    induction m using Nat.strongRecOn with
    | _ m ih =>
      intro s a w hm hI hF
      obtain ⟨e, a₁, w₁, hq, harr⟩ := round s w hI a hF b (.inLoop c :: k) cs
      cases e with
      | normal =>
        obtain ⟨s', hF', hI', hlt⟩ := hq
        obtain ⟨e₂, a₂, w₂, hq₂, harr₂⟩ := ih (μ s') (hm ▸ hlt) s' a₁ w₁ rfl hI' hF'
        exact ⟨e₂, a₂, w₂, hq₂, .of_steps (Steps.trans harr (.one step_inLoop)) harr₂⟩
      | exit id => exact ⟨_, a₁, w₁, hq, .pass (x := .inLoop c) rfl (fun _ _ => .inl (by simp)) harr⟩
      | goto l => exact ⟨_, a₁, w₁, hq, .pass (x := .inLoop c) rfl (fun _ _ => .inl (by simp)) harr⟩
      | ret => exact ⟨_, a₁, w₁, hq, .pass (x := .inLoop c) rfl (fun _ _ => .inl (by simp)) harr⟩
      | panic ch => exact ⟨_, a₁, w₁, hq, .pass (x := .inLoop c) rfl (fun _ _ => .inl (by simp)) harr⟩
      | outgrown => exact ⟨_, a₁, w₁, hq, .pass (x := .inLoop c) rfl (fun _ _ => .inl (by simp)) harr⟩
  obtain ⟨e, a', w', hq, harr⟩ := key _ s0 a w rfl h0 (ha.sub hs)
  exact ⟨e, a', w', hq, .of_steps (.one step_loop) harr⟩
theorem Post.round {σ : Type} {vf : σ → List (Nat × Value)} {I : σ → World → Prop} {μ : σ → Nat} {s : σ} (s' : σ) (hs : Sub (vf s') F) (hI : I s' w) (hlt : μ s' < μ s) : Post (Exit.then (LoopK n vf I μ s) Q) .normal n F w :=
  fun _ ha => ⟨s', ha.sub hs, hI, hlt⟩
theorem Post.round_ret {σ : Type} {vf : σ → List (Nat × Value)} {I : σ → World → Prop} {μ : σ → Nat} {s : σ} (h : Post Q .ret n F w) : Post (Exit.then (LoopK n vf I μ s) Q) .ret n F w := h
theorem Post.round_exit {σ : Type} {vf : σ → List (Nat × Value)} {I : σ → World → Prop} {μ : σ → Nat} {s : σ} {id : Nat} (h : Post Q (.exit id) n F w) : Post (Exit.then (LoopK n vf I μ s) Q) (.exit id) n F w := h

/-- Where ways meet again: σ is what is known there. -/
def JoinK {σ : Type} (n : Nat) (vf : σ → List (Nat × Value)) (J : σ → World → Prop) (a : Act) (w : World) : Prop := ∃ s, Fr n (vf s) a ∧ J s w
theorem Cd.seqJ {σ : Type} {x y : Code} (vf : σ → List (Nat × Value)) (J : σ → World → Prop) (hx : Cd P x (Exit.then (JoinK n vf J) Q) n F w) (hy : ∀ s w, J s w → Cd P y Q n (vf s) w) : Cd P (.seq x y) Q n F w :=
  fun a ha => wp_seq (Code.wp_mono (fun e a w q => by
    cases e with
    | normal => obtain ⟨s, hF, hJ⟩ := q; exact hy s w hJ a hF
    | exit id => exact q
    | goto l => exact q
    | ret => exact q
    | panic ch => exact q
    | outgrown => exact q) (hx a ha))
theorem Post.join {σ : Type} {vf : σ → List (Nat × Value)} {J : σ → World → Prop} (s : σ) (hs : Sub (vf s) F) (hJ : J s w) : Post (Exit.then (JoinK n vf J) Q) .normal n F w := fun _ ha => ⟨s, ha.sub hs, hJ⟩

end
end
section
variable {P : Program} {ops : Array Oper} {Q : Exit → Act → World → Prop} {rest : List Oper} {o : Oper} {n d : Nat} {F F' : List (Nat × Value)} {w w' : World} {v : Value}
/-- The whole function. -/
theorem Calls.of {f : FuncId} {fn : Func} {c : Code} {args : List Value} {R : Ending → World → Prop} (F : List (Nat × Value)) (n : Nat) (hf : P.funcs[f]? = some fn) (hb : fn.body = some c) (hn : n = fn.ntmps) (hle : args.length ≤ n)
    (hF : ∀ a : Act, a.tmps = (args ++ List.replicate (n - args.length) undef).toArray → a.defers = [] → Fr n F a) (h : Cd P c (bodyPost P fn R) n F w) : Calls P f args.toArray w R := by
  refine calls_of_wp hf hb (h _ (hF _ ?_ rfl))
  show args.toArray ++ Array.replicate (fn.ntmps - args.toArray.size) undef = _
  rw [← hn]
  apply Array.ext'
  simp
/-- A call's frame at its start. -/
def startF : Nat → List Value → List (Nat × Value)
  | _, [] => []
  | k, v :: r => (k, v) :: startF (k + 1) r
theorem look_startF (args : List Value) : ∀ k t v, look (startF k args) t = some v → ∃ j, t = k + j ∧ args[j]? = some v := by
  induction args with
  | nil => intro k t v h; simp [startF, look] at h
  | cons x r ih =>
    intro k t v h
    rcases look_put h with ⟨rfl, rfl⟩ | ⟨_, h⟩
    · exact ⟨0, rfl, rfl⟩
    · obtain ⟨j, e, hj⟩ := ih _ _ _ h
      exact ⟨j + 1, by omega, hj⟩
theorem Calls.start {f : FuncId} {fn : Func} {c : Code} {args : List Value} {R : Ending → World → Prop} (n : Nat) (hf : P.funcs[f]? = some fn) (hb : fn.body = some c) (hn : fn.ntmps = n) (hle : Nat.ble args.length n = true)
    (h : Cd P c (bodyPost P fn R) n (startF 0 args) w) : Calls P f args.toArray w R := by
  have hle' := Nat.le_of_ble_eq_true hle
  refine Calls.of (startF 0 args) n hf hb hn.symm hle' (fun a ha hd => ⟨by rw [ha]; simp; omega, hd, fun t v ht => ?_⟩) h
  obtain ⟨j, rfl, hj⟩ := look_startF args 0 t v ht
  rw [ha, Nat.zero_add]
  have hlt : j < args.length := (List.getElem?_eq_some_iff.1 hj).1
  simp [List.getElem?_append_left hlt, hj]

/-- Results that lie in slots. -/
def looks (F : List (Nat × Value)) : List ResultVar → Option (List Value)
  | [] => some []
  | .tmp t :: r => match look F t, looks F r with
    | some v, some vs => some (v :: vs)
    | _, _ => none
  | .cell _ _ :: _ => none
theorem Post.end1 {fn : Func} {R : Ending → World → Prop} {t : Nat} {e : Exit} (hr : fn.results = #[.tmp t]) (hl : look F t = some v) (he : e = .ret ∨ e = .normal) (h : R (.returned v) w) : Post (bodyPost P fn R) e n F w := by
  intro a ha
  have hv : (results fn a.tmps).run P w = .ok v w := by rw [results_tmp hr]; simp [ha.slot t v hl]
  rcases he with rfl | rfl
  · exact ⟨ha.defers, v, hv, h⟩
  · exact ⟨ha.defers, v, hv, h⟩
theorem Post.end0 {fn : Func} {R : Ending → World → Prop} {e : Exit} (hr : fn.results = #[]) (he : e = .ret ∨ e = .normal) (h : R (.returned (.tuple #[])) w) : Post (bodyPost P fn R) e n F w := by
  intro a ha
  have hv := results_none hr a.tmps P w
  rcases he with rfl | rfl
  · exact ⟨ha.defers, _, hv, h⟩
  · exact ⟨ha.defers, _, hv, h⟩
theorem Post.end2 {fn : Func} {R : Ending → World → Prop} {t u : Nat} {v' : Value} {e : Exit} (hr : fn.results = #[.tmp t, .tmp u]) (hl : look F t = some v) (hl' : look F u = some v') (he : e = .ret ∨ e = .normal) (h : R (.returned (.tuple #[v, v'])) w) : Post (bodyPost P fn R) e n F w := by
  intro a ha
  have hv : (results fn a.tmps).run P w = .ok (.tuple #[v, v']) w := by rw [results_tmp2 hr]; simp [ha.slot t v hl, ha.slot u v' hl']
  rcases he with rfl | rfl
  · exact ⟨ha.defers, _, hv, h⟩
  · exact ⟨ha.defers, _, hv, h⟩
/-- Any results, by what they come to. -/
theorem Post.end_ {fn : Func} {R : Ending → World → Prop} {e : Exit} (hv : ∀ a, Fr n F a → (results fn a.tmps).run P w = .ok v w) (he : e = .ret ∨ e = .normal) (h : R (.returned v) w) : Post (bodyPost P fn R) e n F w := by
  intro a ha
  rcases he with rfl | rfl
  · exact ⟨ha.defers, _, hv a ha, h⟩
  · exact ⟨ha.defers, _, hv a ha, h⟩
end
end Go.Proofs.YtefpejnmhlhnkaaGreatDoor
