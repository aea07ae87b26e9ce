/-
  Regions that draw their order: each operation is shown once, in whatever world that has grown; what it needs are its predecessors' facts. No condition.
-/
import Derived.Test.YtefpejnmhlhnkaaGreatDoorKC
set_option linter.unusedSectionVars false
namespace Go.Proofs.YtefpejnmhlhnkaaGreatDoor
open Go.RowKit
variable [Inhabited (List Deferred)]

def directB : List Edge → List Nat
  | [] => []
  | e :: r => bif Region.binds .any e then e.on :: directB r else directB r
def direct (o : Oper) : List Nat := directB o.after.toList
theorem mem_directB {l : List Edge} {j : Nat} : j ∈ directB l ↔ ∃ e ∈ l, Region.binds .any e = true ∧ e.on = j := by
  induction l with
  | nil => simp [directB]
  | cons e r ih =>
    unfold directB
    cases h : Region.binds .any e
    · rw [cond_false, ih]
      constructor
      · rintro ⟨x, h1, h2, h3⟩; exact ⟨x, List.mem_cons_of_mem _ h1, h2, h3⟩
      · rintro ⟨x, h1, h2, h3⟩
        rcases List.mem_cons.1 h1 with rfl | h1
        · rw [h] at h2; cases h2
        · exact ⟨x, h1, h2, h3⟩
    · rw [cond_true, List.mem_cons, ih]
      constructor
      · rintro (rfl | ⟨x, h1, h2, h3⟩)
        · exact ⟨e, List.mem_cons_self, h, rfl⟩
        · exact ⟨x, List.mem_cons_of_mem _ h1, h2, h3⟩
      · rintro ⟨x, h1, h2, h3⟩
        rcases List.mem_cons.1 h1 with rfl | h1
        · exact .inl h3.symm
        · exact .inr ⟨x, h1, h2, h3⟩
theorem mem_direct {o : Oper} {j : Nat} : j ∈ direct o ↔ ∃ e ∈ o.after, Region.binds .any e = true ∧ e.on = j := by
  unfold direct
  rw [mem_directB]
  simp

inductive Fact where
  | eq (v : Value)
  | sat (Φ : Value → World → Prop)
def Fact.holds : Fact → Value → World → Prop
  | .eq v, u, _ => u = v
  | .sat Φ, u, w => Φ u w
abbrev Env := List (Nat × Option Nat × Fact)
def Env.find : Env → Nat → Option (Option Nat × Fact)
  | [], _ => none
  | (i, d, f) :: r, j => bif Nat.beq i j then some (d, f) else Env.find r j
def memB : List Nat → Nat → Bool
  | [], _ => false
  | x :: r, j => bif Nat.beq x j then true else memB r j
theorem memB_spec {l : List Nat} {j : Nat} (h : memB l j = true) : j ∈ l := by
  induction l with
  | nil => cases h
  | cons x r ih =>
    unfold memB at h
    cases hb : Nat.beq x j with
    | true => exact List.mem_cons.2 (.inl (Nat.eq_of_beq_eq_true hb).symm)
    | false => rw [hb] at h; exact List.mem_cons.2 (.inr (ih h))
theorem memB_of {l : List Nat} {j : Nat} (h : j ∈ l) : memB l j = true := by
  induction l with
  | nil => cases h
  | cons x r ih =>
    unfold memB
    cases hb : Nat.beq x j with
    | true => rfl
    | false =>
      rcases List.mem_cons.1 h with rfl | h
      · exact absurd rfl (Nat.ne_of_beq_eq_false hb)
      · exact ih h

/-- What is known at an operation: of its predecessors' slots, and of the frame. -/
def lookE (F0 : List (Nat × Value)) (ds : List Nat) (t : Nat) : Env → Option Value
  | [] => look F0 t
  | (j, some d, .eq v) :: r => bif Nat.beq d t then (bif memB ds j then some v else none) else lookE F0 ds t r
  | (_, some d, .sat _) :: r => bif Nat.beq d t then none else lookE F0 ds t r
  | (_, none, _) :: r => lookE F0 ds t r
def evX (X F0 : List (Nat × Value)) (Γ : Env) (o : Oper) : Operand → Option Value
  | .tmp t => match look X t with
    | some v => some v
    | none => lookE F0 (direct o) t Γ
  | .const v => some v
  | .global g => some (.pointer (some ⟨g, 0, none⟩))
  | .func f => some (.func (.func f) #[] #[])

section
variable (P : Program) (ops : Array Oper) (Q : Exit → Act → World → Prop) (n : Nat) (F0 : List (Nat × Value)) (G : World → World → Prop) (w0 : World)

/-- The facts of some operations hold in this frame and world. -/
def Facts (Γ : Env) (S : Nat → Prop) (a : Act) (w : World) : Prop := ∀ j d f, Env.find Γ j = some (d, f) → S j → ∃ u, (∀ t, d = some t → a.tmps[t]? = some u) ∧ f.holds u w
def StepX (X : List (Nat × Value)) (W : World → Prop) (Γ : Env) (o : Oper) (f : Fact) : Prop := ∀ a w, a.tmps.size = n → G w0 w → W w → Facts Γ (· ∈ direct o) a w → (∀ t v, look F0 t = some v → a.tmps[t]? = some v) → (∀ t v, look X t = some v → a.tmps[t]? = some v) →
  if Region.wanted o (yielded ops a.tmps) then o.wp P a w (fun a' w' => ∃ u, a' = a.put o.dst u ∧ G w w' ∧ f.holds u w') Q else f.holds undef w
def FinX (tail : List Oper) (X : List (Nat × Value)) (W : World → Prop) (Γ : Env) : Prop := ∀ a w, a.tmps.size = n → a.defers = default → G w0 w → W w → Facts Γ (fun _ => True) a w → (∀ t v, look F0 t = some v → a.tmps[t]? = some v) → (∀ t v, look X t = some v → a.tmps[t]? = some v) → wpList P ops Q tail a w
def Fact.Stable : Fact → Prop
  | .eq _ => True
  | .sat Φ => ∀ v w w', G w w' → Φ v w → Φ v w'
/-- An operation that may come up behind the others: it touches no memory. -/
def Late (X : List (Nat × Value)) (W : World → Prop) (Γ : Env) (o : Oper) (f : Fact) : Prop := ∃ v, f = .eq v ∧ ∀ a w, a.tmps.size = n → G w0 w → W w → Facts Γ (· ∈ direct o) a w → (∀ t v, look F0 t = some v → a.tmps[t]? = some v) → (∀ t v, look X t = some v → a.tmps[t]? = some v) → Yields P ops o v a
/-- The new pointers of some operations differ. -/
def Dst (AL : List Nat) (Γ : Env) (S : Nat → Prop) (a : Act) : Prop := ∀ i j di dj fi fj gi gj, i ≠ j → Env.find Γ i = some (some di, fi) → Env.find Γ j = some (some dj, fj) → memB AL i = true → memB AL j = true → S i → S j →
  a.tmps[di]? = some (.pointer (some ⟨gi, 0, none⟩)) → a.tmps[dj]? = some (.pointer (some ⟨gj, 0, none⟩)) → gi ≠ gj
/-- They lie within the heap. -/
def Within (AL : List Nat) (Γ : Env) (S : Nat → Prop) (a : Act) (w : World) : Prop := ∀ i di fi gi, Env.find Γ i = some (some di, fi) → memB AL i = true → S i → a.tmps[di]? = some (.pointer (some ⟨gi, 0, none⟩)) → gi < w.heap.size
def FinD (AL : List Nat) (tail : List Oper) (X : List (Nat × Value)) (W : World → Prop) (Γ : Env) : Prop := ∀ a w, a.tmps.size = n → a.defers = default → G w0 w → W w → Facts Γ (fun _ => True) a w → (∀ t v, look F0 t = some v → a.tmps[t]? = some v) → (∀ t v, look X t = some v → a.tmps[t]? = some v) → Dst AL Γ (fun _ => True) a → wpList P ops Q tail a w
def DrW (L : List Nat) (B : Env → Prop) : Nat → List Oper → Env → Prop
  | _, [], Γ => B Γ
  | k, o :: r, Γ => ∃ f, Fact.Stable G f ∧ StepX P ops Q n F0 G w0 [] (fun _ => True) Γ o f ∧ (memB L k = true → Late P ops n F0 G w0 [] (fun _ => True) Γ o f) ∧ DrW L B (k + 1) r ((k, o.dst, f) :: Γ)
end

/-- The edges are such as the law asks. -/
def ltAll (k : Nat) : List Nat → Bool
  | [] => true
  | x :: r => bif Nat.blt x k then ltAll k r else false
theorem ltAll_spec {k : Nat} {l : List Nat} (h : ltAll k l = true) : ∀ x ∈ l, x < k := by
  induction l with
  | nil => intro x hx; cases hx
  | cons y r ih =>
    unfold ltAll at h
    cases hb : Nat.blt y k with
    | false => rw [hb] at h; cases h
    | true =>
      rw [hb] at h
      intro x hx
      rcases List.mem_cons.1 hx with rfl | hx
      · exact Nat.blt_eq.mp hb
      · exact ih h x hx
/-- Every operation's edges go back; slots are in range, different from one another and from the frame's. -/
def chkInit (n : Nat) (keys : List Nat) : Nat → List Nat → List Oper → Bool
  | _, _, [] => true
  | k, ds, o :: r => bif ltAll k (direct o) then (match o.dst with
    | some d => bif Nat.blt d n && !memB ds d && !memB keys d then chkInit n keys (k + 1) (d :: ds) r else false
    | none => chkInit n keys (k + 1) ds r) else false
def chkTail : Nat → List Oper → Bool
  | _, [] => true
  | k, o :: r => bif ltAll k (direct o) && memB (direct o) (k - 1) then chkTail (k + 1) r else false
/-- Number j is a predecessor of some one behind it, which is none of L. -/
def hasNext (L : List Nat) (j : Nat) : Nat → List Oper → Bool
  | _, [] => false
  | i, o :: r => bif memB (direct o) j && !memB L i then true else hasNext L j (i + 1) r
def chkMeet (L : List Nat) : Nat → List Oper → List Oper → Bool
  | _, [], _ => true
  | j, _ :: r, t => bif memB L j || hasNext L j (j + 1) (r ++ t) then chkMeet L (j + 1) r t else false
/-- Number i, o, is apart from each other one that does not wait for it, and for which it does not wait. -/
def chkApart (ops : Array Oper) (i : Nat) (o : Oper) : Nat → List Oper → Bool
  | _, [] => true
  | j, x :: r => (Nat.beq i j || memB (direct x) i || memB (direct o) j || o.apart ops x) && chkApart ops i o (j + 1) r
def chkLate (ops : Array Oper) : List Nat → Bool
  | [] => true
  | i :: r => (match ops[i]? with
    | some o => chkApart ops i o 0 ops.toList
    | none => false) && chkLate ops r
def noSel : List Oper → Bool
  | [] => true
  | o :: r => (match o.op with | .select .. => false | _ => true) && noSel r
def chkAll (n : Nat) (keys : List Nat) (L : List Nat) (init tail : List Oper) : Bool := chkInit n keys 0 [] init && (match tail with
  | [] => true
  | o :: r => ltAll init.length (direct o) && chkMeet L 0 init [o] && chkTail (init.length + 1) r) && ltAll init.length L && (match L with
  | [] => true
  | _ => chkLate (init ++ tail).toArray L && noSel (init ++ tail))
def keysOf : List (Nat × Value) → List Nat
  | [] => []
  | (k, _) :: r => k :: keysOf r
theorem look_keys {F : List (Nat × Value)} {t : Nat} {v : Value} (h : look F t = some v) : t ∈ keysOf F := by
  induction F with
  | nil => cases h
  | cons p r ih =>
    obtain ⟨k, u⟩ := p
    rcases look_put h with ⟨rfl, -⟩ | ⟨-, h⟩
    · exact List.mem_cons.2 (.inl rfl)
    · exact List.mem_cons.2 (.inr (ih h))

theorem chkInit_spec {n : Nat} {keys : List Nat} : ∀ {l : List Oper} {k : Nat} {ds : List Nat}, chkInit n keys k ds l = true → ∀ i o, l[i]? = some o → (∀ x ∈ direct o, x < k + i) ∧ (∀ d, o.dst = some d → d < n ∧ d ∉ ds ∧ d ∉ keys ∧ ∀ i' o', l[i']? = some o' → i' ≠ i → o'.dst ≠ some d)
  | [], _, _, _, i, o, ho => by simp at ho
  | o :: r, k, ds, h, i, o1, ho => by
    unfold chkInit at h
    cases h1 : ltAll k (direct o) with
    | false => rw [h1] at h; cases h
    | true =>
      rw [h1] at h
      cases hd : o.dst with
      | none =>
        rw [hd] at h
        have ih := chkInit_spec (l := r) h
        cases i with
        | zero =>
          obtain rfl : o = o1 := by simpa using ho
          exact ⟨ltAll_spec h1, fun d e => by rw [hd] at e; cases e⟩
        | succ i =>
          have ho' : r[i]? = some o1 := by simpa using ho
          obtain ⟨a1, a2⟩ := ih i o1 ho'
          refine ⟨fun x hx => by have := a1 x hx; omega, fun d e => ?_⟩
          obtain ⟨b1, b2, b3, b4⟩ := a2 d e
          refine ⟨b1, b2, b3, fun i' o' h' hne => ?_⟩
          cases i' with
          | zero =>
            obtain rfl : o = o' := by simpa using h'
            rw [hd]; simp
          | succ i' => exact b4 i' o' (by simpa using h') (by omega)
      | some d0 =>
        rw [hd] at h
        simp only at h
        cases hc : (Nat.blt d0 n && !memB ds d0 && !memB keys d0) with
        | false => rw [hc] at h; cases h
        | true =>
          rw [hc] at h
          simp only [Bool.and_eq_true, Bool.not_eq_true'] at hc
          obtain ⟨⟨c1, c2⟩, c3⟩ := hc
          have ih := chkInit_spec (l := r) h
          cases i with
          | zero =>
            obtain rfl : o = o1 := by simpa using ho
            refine ⟨ltAll_spec h1, fun d e => ?_⟩
            obtain rfl : d0 = d := by rw [hd] at e; injection e
            refine ⟨Nat.blt_eq.mp c1, (fun hm => by rw [memB_of hm] at c2; cases c2), (fun hm => by rw [memB_of hm] at c3; cases c3), fun i' o' h' hne => ?_⟩
            cases i' with
            | zero => exact absurd rfl hne
            | succ i' =>
              intro e'
              exact ((ih i' o' (by simpa using h')).2 d0 e').2.1 (List.mem_cons.2 (.inl rfl))
          | succ i =>
            have ho' : r[i]? = some o1 := by simpa using ho
            obtain ⟨a1, a2⟩ := ih i o1 ho'
            refine ⟨fun x hx => by have := a1 x hx; omega, fun d e => ?_⟩
            obtain ⟨b1, b2, b3, b4⟩ := a2 d e
            refine ⟨b1, fun hm => b2 (List.mem_cons.2 (.inr hm)), b3, fun i' o' h' hne => ?_⟩
            cases i' with
            | zero =>
              obtain rfl : o = o' := by simpa using h'
              rw [hd]
              intro e'
              injection e' with e'
              exact b2 (List.mem_cons.2 (.inl e'.symm))
            | succ i' => exact b4 i' o' (by simpa using h') (by omega)
theorem chkTail_spec : ∀ {l : List Oper} {k : Nat}, chkTail k l = true → ∀ i o, l[i]? = some o → (∀ x ∈ direct o, x < k + i) ∧ k + i - 1 ∈ direct o
  | [], _, _, i, o, ho => by simp at ho
  | o :: r, k, h, i, o1, ho => by
    unfold chkTail at h
    cases hc : (ltAll k (direct o) && memB (direct o) (k - 1)) with
    | false => rw [hc] at h; cases h
    | true =>
      rw [hc] at h
      simp only [Bool.and_eq_true] at hc
      cases i with
      | zero =>
        obtain rfl : o = o1 := by simpa using ho
        exact ⟨ltAll_spec hc.1, memB_spec hc.2⟩
      | succ i =>
        obtain ⟨a1, a2⟩ := chkTail_spec (l := r) h i o1 (by simpa using ho)
        exact ⟨fun x hx => by have := a1 x hx; omega, by rw [show k + (i + 1) - 1 = k + 1 + i - 1 from by omega]; exact a2⟩
theorem hasNext_spec {L : List Nat} {j : Nat} : ∀ {l : List Oper} {k : Nat}, hasNext L j k l = true → ∃ (i : Nat) (o : Oper), l[i]? = some o ∧ j ∈ direct o ∧ memB L (k + i) = false
  | [], _, h => by cases h
  | o :: r, k, h => by
    unfold hasNext at h
    cases hb : (memB (direct o) j && !memB L k) with
    | true =>
      simp only [Bool.and_eq_true, Bool.not_eq_true'] at hb
      exact ⟨0, o, rfl, memB_spec hb.1, hb.2⟩
    | false =>
      rw [hb] at h
      obtain ⟨i, o', h1, h2, h3⟩ := hasNext_spec (l := r) h
      exact ⟨i + 1, o', by simpa using h1, h2, by rw [show k + (i + 1) = k + 1 + i from by omega]; exact h3⟩
theorem chkMeet_spec {L : List Nat} : ∀ {l t : List Oper} {k : Nat}, chkMeet L k l t = true → ∀ j, j < l.length → memB L (k + j) = false → ∃ (i : Nat) (o : Oper), j < i ∧ (l ++ t)[i]? = some o ∧ k + j ∈ direct o ∧ memB L (k + i) = false
  | [], _, _, _, j, hj, _ => by simp at hj
  | o :: r, t, k, h, j, hj, hL => by
    unfold chkMeet at h
    cases hb : (memB L k || hasNext L k (k + 1) (r ++ t)) with
    | false => rw [hb] at h; cases h
    | true =>
      rw [hb] at h
      cases j with
      | zero =>
        rw [Nat.add_zero] at hL
        rw [hL, Bool.false_or] at hb
        obtain ⟨i, o', h1, h2, h3⟩ := hasNext_spec hb
        exact ⟨i + 1, o', by omega, by simpa using h1, by simpa using h2, by rw [show k + (i + 1) = k + 1 + i from by omega]; exact h3⟩
      | succ j =>
        obtain ⟨i, o', h1, h2, h3, h4⟩ := chkMeet_spec (l := r) h j (by simpa using hj) (by rw [show k + 1 + j = k + (j + 1) from by omega]; exact hL)
        exact ⟨i + 1, o', by omega, by simpa using h2, by rw [show k + (j + 1) = k + 1 + j from by omega]; exact h3, by rw [show k + (i + 1) = k + 1 + i from by omega]; exact h4⟩
theorem chkApart_spec {ops : Array Oper} {i : Nat} {o : Oper} : ∀ {l : List Oper} {k : Nat}, chkApart ops i o k l = true → ∀ j x, l[j]? = some x → i ≠ k + j → i ∉ direct x → k + j ∉ direct o → o.apart ops x = true
  | [], _, _, j, x, hx, _, _, _ => by simp at hx
  | y :: r, k, h, j, x, hx, h1, h2, h3 => by
    simp only [chkApart, Bool.and_eq_true, Bool.or_eq_true] at h
    cases j with
    | zero =>
      obtain rfl : y = x := by simpa using hx
      rcases h.1 with ((ha | ha) | ha) | ha
      · exact absurd (Nat.eq_of_beq_eq_true ha) h1
      · exact absurd (memB_spec ha) h2
      · exact absurd (memB_spec ha) h3
      · exact ha
    | succ j => exact chkApart_spec (l := r) h.2 j x (by simpa using hx) (by omega) h2 (by rw [show k + 1 + j = k + (j + 1) from by omega]; exact h3)
theorem chkLate_spec {ops : Array Oper} : ∀ {L : List Nat}, chkLate ops L = true → ∀ i o, memB L i = true → ops[i]? = some o → ∀ j x, ops[j]? = some x → i ≠ j → i ∉ direct x → j ∉ direct o → o.apart ops x = true
  | [], _, i, o, hi, _ => by cases hi
  | k :: r, h, i, o, hi, ho => by
    simp only [chkLate, Bool.and_eq_true] at h
    intro j x hx h1 h2 h3
    rcases List.mem_cons.1 (memB_spec hi) with rfl | hm
    · have h0 := h.1
      rw [ho] at h0
      exact chkApart_spec h0 j x (by simpa using hx) (by omega) h2 (by simpa using h3)
    · exact chkLate_spec h.2 i o (memB_of hm) ho j x hx h1 h2 h3
theorem noSel_spec : ∀ {l : List Oper}, noSel l = true → ∀ (j : Nat) (o : Oper) cs b, l[j]? = some o → o.op ≠ .select cs b
  | [], _, j, o, _, _, ho => by simp at ho
  | x :: r, h, j, o, cs, b, ho => by
    simp only [noSel, Bool.and_eq_true] at h
    cases j with
    | zero =>
      obtain rfl : x = o := by simpa using ho
      intro e
      rw [e] at h
      exact absurd h.1 (by simp)
    | succ j => exact noSel_spec h.2 j o cs b (by simpa using ho)

section
variable {P : Program} {ops : Array Oper} {Q : Exit → Act → World → Prop} {n : Nat} {F0 : List (Nat × Value)} {G : World → World → Prop} {w0 : World}

theorem ready_iff {listed : Array Bool} {j : Nat} : j ∈ Region.ready .any ops listed ↔ listed.getD j true = false ∧ ∃ o, ops[j]? = some o ∧ ∀ x ∈ direct o, listed.getD x false = true := by
  rw [mem_ready]
  constructor
  · rintro ⟨h0, o, ho, h⟩
    refine ⟨h0, o, ho, fun x hx => ?_⟩
    obtain ⟨e, he, hb, rfl⟩ := mem_direct.1 hx
    exact h e he hb
  · rintro ⟨h0, o, ho, h⟩
    exact ⟨h0, o, ho, fun e he hb => h _ (mem_direct.2 ⟨e, he, hb, rfl⟩)⟩
theorem getD_both {listed : Array Bool} {i : Nat} (h : listed.getD i true = false) : listed.getD i false = false := by
  rcases Nat.lt_or_ge i listed.size with hl | hl
  · simp [hl] at h ⊢; exact h
  · simp [Array.getElem?_eq_none hl] at h
theorem getD_both' {listed : Array Bool} {i : Nat} (hl : i < listed.size) (h : listed.getD i false = true) : listed.getD i true = true := by simp [hl] at h ⊢; exact h
theorem getD_set_self {listed : Array Bool} {i : Nat} (d : Bool) (hl : i < listed.size) : (listed.setIfInBounds i true).getD i d = true := by simp [hl]

/-- How many have not come up. -/
def left (listed : Array Bool) : Nat → Nat
  | 0 => 0
  | k + 1 => left listed k + (if listed.getD k true then 0 else 1)
theorem left_set {listed : Array Bool} {i : Nat} (hl : i < listed.size) (h : listed.getD i true = false) : ∀ k, left (listed.setIfInBounds i true) k + (if i < k then 1 else 0) = left listed k
  | 0 => by simp [left]
  | k + 1 => by
    have ih := left_set hl h k
    unfold left
    by_cases hik : i = k
    · subst hik
      rw [getD_set_self true hl, h]
      simp at ih ⊢
      omega
    · rw [getD_set_ne true hik]
      by_cases h2 : i < k
      · rw [if_pos h2] at ih; rw [if_pos (show i < k + 1 by omega)]; omega
      · rw [if_neg h2] at ih; rw [if_neg (show ¬ i < k + 1 by omega)]; omega
theorem left_zero {listed : Array Bool} : ∀ {k : Nat}, left listed k = 0 → ∀ i, i < k → listed.getD i true = true
  | 0, _, i, hi => by omega
  | k + 1, h, i, hi => by
    unfold left at h
    rcases Nat.lt_or_ge i k with h1 | h1
    · exact left_zero (by omega) i h1
    · obtain rfl : i = k := by omega
      cases hb : listed.getD i true with
      | true => rfl
      | false => rw [hb] at h; simp at h

/-- Behind the first part, the others come up in their order. -/
theorem phase2 {init tail : List Oper} (hops : ops = (init ++ tail).toArray) (h0 : ∀ o, tail[0]? = some o → ∀ x ∈ direct o, x < init.length) (ht : ∀ i o, tail[i + 1]? = some o → (∀ x ∈ direct o, x < init.length + 1 + i) ∧ init.length + 1 + i - 1 ∈ direct o) :
    ∀ (fuel r : Nat) (listed : Array Bool) (a : Act) (w : World), listed.size = ops.size → r ≤ tail.length → (∀ i, i < init.length + r → listed.getD i true = true) → (∀ i, init.length + r ≤ i → i < ops.size → listed.getD i true = false) → tail.length ≤ r + fuel →
      wpList P ops Q (tail.drop r) a w → wpAny P .any ops Q fuel listed a w := by
  have hsz : ops.size = init.length + tail.length := by rw [hops]; simp
  have hat : ∀ r, ops[init.length + r]? = tail[r]? := fun r => by rw [hops]; simp [List.getElem?_append_right]
  have done : ∀ (listed : Array Bool), listed.size = ops.size → (∀ i, i < ops.size → listed.getD i true = true) → Region.ready .any ops listed = [] := by
    intro listed hl h
    rw [List.eq_nil_iff_forall_not_mem]
    intro j hj
    obtain ⟨h1, o, ho, _⟩ := ready_iff.1 hj
    rw [h j (Array.getElem?_eq_some_iff.1 ho).1] at h1
    cases h1
  intro fuel
  induction fuel with
  | zero =>
    intro r listed a w hl hr h1 h2 hf hw
    obtain rfl : r = tail.length := by omega
    rw [List.drop_length] at hw
    exact ⟨done listed hl (fun i hi => h1 i (by omega)), hw⟩
  | succ fuel ih =>
    intro r listed a w hl hr h1 h2 hf hw
    rcases Nat.lt_or_ge r tail.length with hlt | hge
    · have hro : tail[r]? = some tail[r] := List.getElem?_eq_getElem hlt
      have hready : init.length + r ∈ Region.ready .any ops listed := by
        refine ready_iff.2 ⟨h2 _ (Nat.le_refl _) (by omega), tail[r], by rw [hat, hro], fun x hx => ?_⟩
        have hlt' : x < init.length + r := by
          cases r with
          | zero => have := h0 _ hro x hx; omega
          | succ r => have := (ht r _ hro).1 x hx; omega
        have := h1 x hlt'
        cases hb : listed.getD x false with
        | true => rfl
        | false =>
          have hxl : x < listed.size := by omega
          simp [hxl] at this hb
          rw [this] at hb; cases hb
      refine ⟨fun h => (by rw [h] at hready; cases hready), fun i hi => ?_⟩
      obtain ⟨g1, o, ho, g2⟩ := ready_iff.1 hi
      have hi' : i < ops.size := (Array.getElem?_eq_some_iff.1 ho).1
      have hir : i = init.length + r := by
        rcases Nat.lt_or_ge i (init.length + r) with hh | hh
        · rw [h1 i hh] at g1; cases g1
        · rcases Nat.eq_or_lt_of_le hh with e | hgt
          · exact e.symm
          · exfalso
            obtain ⟨q, rfl⟩ : ∃ q, i = init.length + (q + 1) := ⟨i - init.length - 1, by omega⟩
            rw [hat] at ho
            have h3 := g2 _ (ht q o ho).2
            have h4 := h2 (init.length + 1 + q - 1) (by omega) (by omega)
            rw [getD_both h4] at h3
            cases h3
      subst hir
      rw [hat, hro] at ho
      have e : tail.drop r = tail[r] :: tail.drop (r + 1) := List.drop_eq_getElem_cons hlt
      rw [e] at hw
      have hstep : wpOp P ops Q (init.length + r) (wpList P ops Q (tail.drop (r + 1))) a w := by
        unfold wpOp
        rw [hat, hro]
        exact hw
      refine wpOp_mono (fun a' w' hh => ih (r + 1) _ a' w' (by simp [hl]) (by omega) (fun i hi => ?_) (fun i hi hi2 => ?_) (by omega) hh) hstep
      · by_cases hir : init.length + r = i
        · rw [← hir, getD_set_self true (by omega)]
        · rw [getD_set_ne true hir]; exact h1 i (by omega)
      · rw [getD_set_ne true (by omega)]; exact h2 i (by omega) hi2
    · obtain rfl : r = tail.length := by omega
      rw [List.drop_length] at hw
      have := done listed hl (fun i hi => h1 i (by omega))
      exact ⟨fun _ => hw, by rw [this]; intro i hi; cases hi⟩

theorem DrW.mono {L : List Nat} {B B' : Env → Prop} (hB : ∀ Γ, B Γ → B' Γ) : ∀ (l : List Oper) (k : Nat) (Γ : Env), DrW P ops Q n F0 G w0 L B k l Γ → DrW P ops Q n F0 G w0 L B' k l Γ
  | [], _, Γ, h => hB Γ h
  | _ :: r, k, _, ⟨f, h1, h2, h3, h4⟩ => ⟨f, h1, h2, h3, DrW.mono hB r (k + 1) _ h4⟩
theorem DrW.out {L : List Nat} {B : Env → Prop} : ∀ (l : List Oper) (k : Nat) (Γ : Env), (∀ j, k ≤ j → Env.find Γ j = none) → DrW P ops Q n F0 G w0 L B k l Γ →
    ∃ Γ', B Γ' ∧ (∀ j, j < k → Env.find Γ' j = Env.find Γ j) ∧ (∀ j, k + l.length ≤ j → Env.find Γ' j = none) ∧
      ∀ i o, l[i]? = some o → ∃ f Γi, Env.find Γ' (k + i) = some (o.dst, f) ∧ Fact.Stable G f ∧ StepX P ops Q n F0 G w0 [] (fun _ => True) Γi o f ∧ (memB L (k + i) = true → Late P ops n F0 G w0 [] (fun _ => True) Γi o f) ∧ ∀ j, j < k + i → Env.find Γi j = Env.find Γ' j
  | [], k, Γ, hk, h => ⟨Γ, h, fun _ _ => rfl, fun j hj => hk j (by simpa using hj), fun i o ho => by simp at ho⟩
  | o :: r, k, Γ, hk, h => by
    obtain ⟨f, hs, hstep, hlate, hr⟩ := h
    have hne : ∀ j, j ≠ k → Env.find ((k, o.dst, f) :: Γ) j = Env.find Γ j := fun j hj => by
      show (bif Nat.beq k j then some (o.dst, f) else Env.find Γ j) = _
      cases hb : Nat.beq k j with
      | true => exact absurd (Nat.eq_of_beq_eq_true hb).symm hj
      | false => rfl
    have heq : Env.find ((k, o.dst, f) :: Γ) k = some (o.dst, f) := by
      show (bif Nat.beq k k then some (o.dst, f) else Env.find Γ k) = _
      rw [Nat.beq_refl]; rfl
    obtain ⟨Γ', h1, h2, h3, h4⟩ := DrW.out r (k + 1) _ (fun j hj => by rw [hne j (by omega)]; exact hk j (by omega)) hr
    refine ⟨Γ', h1, fun j hj => by rw [h2 j (by omega), hne j (by omega)], fun j hj => h3 j (by simp at hj; omega), fun i o' ho => ?_⟩
    cases i with
    | zero =>
      obtain rfl : o = o' := by simpa using ho
      exact ⟨f, Γ, by rw [Nat.add_zero, h2 k (by omega), heq], hs, hstep, hlate, fun j hj => by rw [h2 j (by omega), hne j (by omega)]⟩
    | succ i =>
      obtain ⟨f', Γi, a1, a2, a3, al, a4⟩ := h4 i o' (by simpa using ho)
      exact ⟨f', Γi, by rw [show k + (i + 1) = k + 1 + i from by omega]; exact a1, a2, a3, by rw [show k + (i + 1) = k + 1 + i from by omega]; exact al, fun j hj => a4 j (by omega)⟩

/-- An operation that makes a new block. -/
def Makes (P : Program) (o : Oper) : Prop := o.guard = none ∧ (∃ d, o.dst = some d) ∧ ∃ T z, o.op = .alloc T ∧ ∀ w, (zeroValue T).run P w = .ok z w
theorem Makes.wp {o : Oper} {a : Act} {w : World} {R : Act → World → Prop} (h : Makes P o) (hn : ∀ d, o.dst = some d → d < a.tmps.size) {K : Value → World → Prop} (hR : ∀ a' w', R a' w' → ∃ u, a' = a.put o.dst u ∧ K u w') (hx : o.wp P a w R Q) :
    o.wp P a w (fun a' w' => ∃ u, a' = a.put o.dst u ∧ K u w' ∧ u = .pointer (some ⟨w.heap.size, 0, none⟩) ∧ w.heap.size < w'.heap.size) Q := by
  obtain ⟨-, ⟨d, hd⟩, T, z, ho, hz⟩ := h
  have hr : (execOp a.eval o).run P w = .ok (.value (.pointer (some ⟨w.heap.size, 0, none⟩))) (w.alloc (.cells z.cells T)) := Runs.alloc_ (E := fun _ => none) ho hz a.eval (fun x u hxu => by cases hxu)
  unfold Oper.wp at hx ⊢
  rw [hr, Oper.upon_value] at hx ⊢
  obtain ⟨u, e, hK⟩ := hR _ _ hx
  have hu : u = .pointer (some ⟨w.heap.size, 0, none⟩) := by
    have := congrArg (fun (b : Act) => b.tmps[d]?) e
    rw [hd] at this
    simp [Act.put, hn d hd] at this
    exact this.symm
  subst hu
  exact ⟨_, rfl, hK, rfl, by show w.heap.size < (w.heap.push _).size; rw [Array.size_push]; omega⟩
theorem wp_draw {id : Nat} (L AL : List Nat) {init tail : List Oper} (hAL : ∀ i o, memB AL i = true → init[i]? = some o → Makes P o) (hALL : ∀ i, memB AL i = true → memB L i = false) (hGs : AL = [] ∨ ∀ w w', G w w' → w.heap.size ≤ w'.heap.size) (hQ : L = [] ∨ ∀ c (a : Act) d v w, Q (.panic c) (a.put d v) w → Q (.panic c) a w) (hm : P.follows .mixedOrders = true) (hops : ops = (init ++ tail).toArray) (hchk : chkAll n (keysOf F0) L init tail = true) (Gt : ∀ a b c, G a b → G b c → G a c) (Gr : ∀ w, G w w)
    {w : World} (hw0 : w0 = { w with drawn := w.drawn + 1 }) (h : DrW P ops Q n F0 G w0 L (FinD P ops Q n F0 G w0 AL tail [] (fun _ => True)) 0 init []) {a : Act} (ha : Fr n F0 a) : (Code.region id ops true).wp P Q a w := by
  refine wp_region_any hm ?_
  rw [← hw0]
  simp only [chkAll, Bool.and_eq_true] at hchk
  obtain ⟨⟨⟨hc1, hc2⟩, hcL⟩, hcl⟩ := hchk
  have hLlt : ∀ i, memB L i = true → i < init.length := fun i hi => ltAll_spec hcL i (memB_spec hi)
  have c1 := chkInit_spec hc1
  have hsz : ops.size = init.length + tail.length := by rw [hops]; simp
  have hat : ∀ i, i < init.length → ops[i]? = init[i]? := fun i hi => by rw [hops]; simp [List.getElem?_append_left hi]
  have hat2 : ∀ r, ops[init.length + r]? = tail[r]? := fun r => by rw [hops]; simp [List.getElem?_append_right]
  obtain ⟨Γ, hfin, -, hnone, hall⟩ := DrW.out init 0 [] (fun _ _ => rfl) h
  -- the tail's edges
  have t0 : ∀ o, tail[0]? = some o → ∀ x ∈ direct o, x < init.length := by
    intro o ho
    cases tail with
    | nil => simp at ho
    | cons o1 r =>
      obtain rfl : o1 = o := by simpa using ho
      simp only [Bool.and_eq_true] at hc2
      exact ltAll_spec hc2.1.1
  have ts : ∀ i o, tail[i + 1]? = some o → (∀ x ∈ direct o, x < init.length + 1 + i) ∧ init.length + 1 + i - 1 ∈ direct o := by
    intro i o ho
    cases tail with
    | nil => simp at ho
    | cons o1 r =>
      simp only [Bool.and_eq_true] at hc2
      exact chkTail_spec hc2.2 i o (by simpa using ho)
  have tm : ∀ o, tail[0]? = some o → ∀ j, j < init.length → memB L j = false → ∃ (i : Nat) (o' : Oper), j < i ∧ i ≤ init.length ∧ ops[i]? = some o' ∧ j ∈ direct o' ∧ memB L i = false := by
    intro o ho j hj hjL
    cases tail with
    | nil => simp at ho
    | cons o1 r =>
      simp only [Bool.and_eq_true] at hc2
      obtain ⟨i, o', h1, h2, h3, h4⟩ := chkMeet_spec hc2.1.2 j hj (by rw [Nat.zero_add]; exact hjL)
      rw [Nat.zero_add] at h3 h4
      have hi : i < (init ++ [o1]).length := (List.getElem?_eq_some_iff.1 h2).1
      simp at hi
      refine ⟨i, o', h1, by omega, ?_, h3, h4⟩
      rcases Nat.lt_or_ge i init.length with hlt | hge
      · rw [hat i hlt, ← h2, List.getElem?_append_left hlt]
      · obtain rfl : i = init.length := by omega
        have := hat2 0
        rw [Nat.add_zero] at this
        rw [this, ← h2, List.getElem?_append_right (Nat.le_refl _)]
        simp
  have bothT : ∀ (listed : Array Bool) x, listed.size = ops.size → x < ops.size → listed.getD x true = true → listed.getD x false = true := by
    intro listed x hl hx h
    have hxl : x < listed.size := by omega
    simp [hxl] at h ⊢; exact h
  -- the first part
  have key : ∀ (fuel : Nat) (listed : Array Bool) (a : Act) (w : World), listed.size = ops.size → (∀ i o, ops[i]? = some o → listed.getD i false = true → ∀ x ∈ direct o, listed.getD x false = true) → (∀ i, init.length ≤ i → i < ops.size → listed.getD i true = false) →
      a.tmps.size = n → a.defers = default → G w0 w → Facts Γ (fun j => listed.getD j false = true) a w → (∀ t v, look F0 t = some v → a.tmps[t]? = some v) → Dst AL Γ (fun j => listed.getD j false = true) a → Within AL Γ (fun j => listed.getD j false = true) a w → left listed ops.size ≤ fuel → wpAny P .any ops Q fuel listed a w := by
    intro fuel
    induction fuel with
    | zero =>
      intro listed a w hl hdc hts hsize hdef hG hF hs hDs hWn hf
      have hall1 := left_zero (Nat.le_zero.1 hf)
      have hlen : init.length = ops.size := by
        rcases Nat.lt_or_ge init.length ops.size with hh | hh
        · have := hall1 _ hh; rw [hts _ (Nat.le_refl _) hh] at this; cases this
        · omega
      refine phase2 hops t0 ts 0 0 listed a w hl (Nat.zero_le _) (fun i hi => hall1 i (by omega)) (fun i hi hi2 => by omega) (by omega) ?_
      rw [List.drop_zero]
      have hlis : ∀ j d f, Env.find Γ j = some (d, f) → listed.getD j false = true := fun j d f hj => by
        rcases Nat.lt_or_ge j init.length with hh | hh
        · exact bothT listed j hl (by omega) (hall1 j (by omega))
        · rw [hnone j (by omega)] at hj; cases hj
      exact hfin a w hsize hdef hG trivial (fun j d f hj _ => hF j d f hj (hlis j d f hj)) hs (fun t v ht => by simp [look] at ht) (fun i j di dj fi fj gi gj h1 h2 h3 h4 h5 _ _ h8 h9 => hDs i j di dj fi fj gi gj h1 h2 h3 h4 h5 (hlis i _ _ h2) (hlis j _ _ h3) h8 h9)
    | succ fuel ih =>
      intro listed a w hl hdc hts hsize hdef hG hF hs hDs hWn hf
      by_cases hdone : ∀ i, i < init.length → listed.getD i true = true
      · refine phase2 hops t0 ts (fuel + 1) 0 listed a w hl (Nat.zero_le _) (fun i hi => hdone i (by omega)) (fun i hi hi2 => hts i (by omega) hi2) ?_ ?_
        ·
          have : ∀ k, k ≤ tail.length → left listed (init.length + k) = left listed init.length + k := by
            intro k
            induction k with
            | zero => intro _; rfl
            | succ k ihk =>
              intro hk
              show left listed (init.length + k) + (if listed.getD (init.length + k) true then 0 else 1) = _
              rw [ihk (by omega), hts (init.length + k) (by omega) (by omega)]
              simp; omega
          have := this tail.length (Nat.le_refl _)
          rw [← hsz] at this
          omega
        · rw [List.drop_zero]
          have hlis : ∀ j d f, Env.find Γ j = some (d, f) → listed.getD j false = true := fun j d f hj => by
            rcases Nat.lt_or_ge j init.length with hh | hh
            · exact bothT listed j hl (by omega) (hdone j hh)
            · rw [hnone j (by omega)] at hj; cases hj
          exact hfin a w hsize hdef hG trivial (fun j d f hj _ => hF j d f hj (hlis j d f hj)) hs (fun t v ht => by simp [look] at ht) (fun i j di dj fi fj gi gj h1 h2 h3 h4 h5 _ _ h8 h9 => hDs i j di dj fi fj gi gj h1 h2 h3 h4 h5 (hlis i _ _ h2) (hlis j _ _ h3) h8 h9)
      ·
        have hex : ∃ i, i ∈ Region.ready .any ops listed := by
          have hex0 : ∃ i, i < init.length ∧ listed.getD i true = false := by
            refine Classical.byContradiction fun hno => hdone fun i hi => ?_
            cases hb : listed.getD i true with
            | true => rfl
            | false => exact absurd ⟨i, hi, hb⟩ hno
          have hmin : ∀ m i, i ≤ m → i < init.length → listed.getD i true = false → ∃ j, j < init.length ∧ listed.getD j true = false ∧ ∀ x, x < j → listed.getD x true = true := by
            intro m
            induction m with
            | zero => intro i hi h1 h2; exact ⟨i, h1, h2, fun x hx => by omega⟩
            | succ m ihm =>
              intro i hi h1 h2
              by_cases hx : ∃ x, x < i ∧ listed.getD x true = false
              · obtain ⟨x, hx1, hx2⟩ := hx
                exact ihm x (by omega) (by omega) hx2
              · refine ⟨i, h1, h2, fun x hx1 => ?_⟩
                cases hb : listed.getD x true with
                | true => rfl
                | false => exact absurd ⟨x, hx1, hb⟩ hx
          obtain ⟨i0, hi0, hb0⟩ := hex0
          obtain ⟨j, hj1, hj2, hj3⟩ := hmin i0 i0 (Nat.le_refl _) hi0 hb0
          refine ⟨j, ready_iff.2 ⟨hj2, init[j], by rw [hat j hj1, List.getElem?_eq_getElem hj1], fun x hx => ?_⟩⟩
          have hlt : x < j := by have := (c1 j _ (List.getElem?_eq_getElem hj1)).1 x hx; omega
          exact bothT listed x hl (by omega) (hj3 x hlt)
        -- what one of the first part's operations comes to
        have go : ∀ i o, i < init.length → i ∈ Region.ready .any ops listed → ops[i]? = some o → ∃ f : Fact, (if Region.wanted o (yielded ops a.tmps) = true then o.wp P a w (fun a' w' => ∃ u, a' = a.put o.dst u ∧ G w w' ∧ f.holds u w' ∧ (memB AL i = true → u = .pointer (some ⟨w.heap.size, 0, none⟩) ∧ w.heap.size < w'.heap.size)) Q else f.holds undef w ∧ memB AL i = false) ∧
            (memB L i = true → ∃ v, f = .eq v ∧ Yields P ops o v a) ∧ ∀ u w', G w w' → f.holds u w' → (memB AL i = true → u = .pointer (some ⟨w.heap.size, 0, none⟩) ∧ w.heap.size < w'.heap.size) → wpAny P .any ops Q fuel (listed.setIfInBounds i true) (a.put o.dst u) w' := by
          intro i o hlt hi ho
          obtain ⟨g1, o1, ho1, g2⟩ := ready_iff.1 hi
          rw [ho] at ho1
          obtain rfl : o = o1 := by injection ho1
          have hi' : i < ops.size := (Array.getElem?_eq_some_iff.1 ho).1
          have hoi : init[i]? = some o := by rw [← hat i hlt]; exact ho
          obtain ⟨f, Γi, f1, f2, f3, fl, f4⟩ := hall i o hoi
          rw [Nat.zero_add] at f1 f4 fl
          obtain ⟨d1, d2⟩ := c1 i o hoi
          have hx := f3 a w hsize hG trivial (fun j d f' hj hd => hF j d f' (by rw [← f4 j (by have := d1 j hd; omega)]; exact hj) (g2 j hd)) hs (fun t v ht => by simp [look] at ht)
          have hslot : ∀ u j d f, j ≠ i → Env.find Γ j = some (some d, f) → (a.put o.dst u).tmps[d]? = a.tmps[d]? := by
            intro u j d f hji hj
            rcases Nat.lt_or_ge j init.length with hh | hh
            · have hoj : init[j]? = some init[j] := List.getElem?_eq_getElem hh
              obtain ⟨fj, Γj, q1, -⟩ := hall j _ hoj
              rw [Nat.zero_add, hj] at q1
              injection q1 with q1
              injection q1 with q1 _
              have hdj : init[j].dst = some d := q1.symm
              have hdi : o.dst ≠ some d := fun hdi => (d2 d hdi).2.2.2 j _ hoj hji hdj
              cases hd : o.dst with
              | none => rfl
              | some d0 =>
                have : d0 ≠ d := fun e' => hdi (by rw [hd, e'])
                simp only [Act.put]
                rw [Array.getElem?_setIfInBounds_ne this]
            · rw [hnone j (by omega)] at hj; cases hj
          -- what holds behind it
          have next : ∀ u w', G w w' → f.holds u w' → (memB AL i = true → u = .pointer (some ⟨w.heap.size, 0, none⟩) ∧ w.heap.size < w'.heap.size) → wpAny P .any ops Q fuel (listed.setIfInBounds i true) (a.put o.dst u) w' := by
            intro u w' hG' hu hmk
            refine ih _ _ _ (by simp [hl]) ?_ ?_ ?_ ?_ (Gt _ _ _ hG hG') ?_ ?_ ?_ ?_ ?_
            · intro i2 o2 h1 h2 x hx2
              by_cases e : i = i2
              · subst e
                rw [ho] at h1
                obtain rfl : o = o2 := by injection h1
                exact getD_set_true (g2 x hx2)
              · rw [getD_set_ne false e] at h2
                exact getD_set_true (hdc i2 o2 h1 h2 x hx2)
            · intro i2 h1 h2
              rw [getD_set_ne true (by omega)]
              exact hts i2 h1 h2
            · cases hd : o.dst <;> simp [Act.put, hsize]
            · cases hd : o.dst <;> simp [Act.put, hdef]
            · intro j d f' hj hjl
              by_cases e : i = j
              · subst e
                rw [f1] at hj
                injection hj with hj
                injection hj with e1 e2
                subst e1 e2
                refine ⟨u, fun t ht => ?_, hu⟩
                have := (d2 t ht).1
                rw [ht]
                simp [Act.put, hsize, this]
              · rw [getD_set_ne false e] at hjl
                obtain ⟨u', h1, h2⟩ := hF j d f' hj hjl
                refine ⟨u', fun t ht => ?_, ?_⟩
                · rcases Nat.lt_or_ge j init.length with hh | hh
                  · have hoj : init[j]? = some init[j] := List.getElem?_eq_getElem hh
                    obtain ⟨fj, Γj, q1, -⟩ := hall j _ hoj
                    rw [Nat.zero_add, hj] at q1
                    injection q1 with q1
                    injection q1 with q1 _
                    have hdj : init[j].dst = some t := by rw [← q1]; exact ht
                    have hdi : o.dst ≠ some t := fun hdi => (d2 t hdi).2.2.2 j _ hoj (fun e' => e e'.symm) hdj
                    cases hd : o.dst with
                    | none => exact h1 t ht
                    | some d0 =>
                      have : d0 ≠ t := fun e' => hdi (by rw [hd, e'])
                      simp only [Act.put]
                      rw [Array.getElem?_setIfInBounds_ne this]
                      exact h1 t ht
                  · rw [hnone j (by omega)] at hj; cases hj
                · have hst : Fact.Stable G f' := by
                    rcases Nat.lt_or_ge j init.length with hh | hh
                    · obtain ⟨fj, Γj, q1, q2, -⟩ := hall j _ (List.getElem?_eq_getElem hh)
                      rw [Nat.zero_add, hj] at q1
                      injection q1 with q1
                      injection q1 with _ q1
                      rw [q1]; exact q2
                    · rw [hnone j (by omega)] at hj; cases hj
                  cases f' with
                  | eq v => exact h2
                  | sat Φ => exact hst u' w w' hG' h2
            · intro t v ht
              cases hd : o.dst with
              | none => exact hs t v ht
              | some d0 =>
                have : d0 ≠ t := fun e' => (d2 d0 hd).2.2.1 (by rw [e']; exact look_keys ht)
                simp only [Act.put]
                rw [Array.getElem?_setIfInBounds_ne this]
                exact hs t v ht
            ·
              intro j k dj dk fj fk gj gk hne h1 h2 h3 h4 h5 h6 h7 h8
              have hkeep : ∀ j d f, j ≠ i → Env.find Γ j = some (some d, f) → (a.put o.dst u).tmps[d]? = a.tmps[d]? := hslot u
              by_cases ej : i = j
              · subst ej
                obtain ⟨e1, e2⟩ := hmk h3
                rw [f1] at h1
                injection h1 with h1
                injection h1 with h1 _
                have hdn := (d2 dj h1).1
                rw [h1] at h7
                simp [Act.put, hsize, hdn] at h7
                rw [e1] at h7
                injection h7 with h7
                injection h7 with h7
                injection h7 with h7
                rw [hkeep k dk fk (fun e => hne e.symm) h2] at h8
                rw [getD_set_ne false hne] at h6
                have := hWn k dk fk gk h2 h4 h6 h8
                omega
              · rw [hkeep j dj fj (fun e => ej e.symm) h1] at h7
                rw [getD_set_ne false ej] at h5
                by_cases ek : i = k
                · subst ek
                  obtain ⟨e1, e2⟩ := hmk h4
                  rw [f1] at h2
                  injection h2 with h2
                  injection h2 with h2 _
                  have hdn := (d2 dk h2).1
                  rw [h2] at h8
                  simp [Act.put, hsize, hdn] at h8
                  rw [e1] at h8
                  injection h8 with h8
                  injection h8 with h8
                  injection h8 with h8
                  have := hWn j dj fj gj h1 h3 h5 h7
                  omega
                · rw [hkeep k dk fk (fun e => ek e.symm) h2] at h8
                  rw [getD_set_ne false ek] at h6
                  exact hDs j k dj dk fj fk gj gk hne h1 h2 h3 h4 h5 h6 h7 h8
            · intro j dj fj gj h1 h3 h5 h7
              by_cases ej : i = j
              · subst ej
                obtain ⟨e1, e2⟩ := hmk h3
                rw [f1] at h1
                injection h1 with h1
                injection h1 with h1 _
                have hdn := (d2 dj h1).1
                rw [h1] at h7
                simp [Act.put, hsize, hdn] at h7
                rw [e1] at h7
                injection h7 with h7
                injection h7 with h7
                injection h7 with h7
                omega
              · rw [hslot u j dj fj (fun e => ej e.symm) h1] at h7
                rw [getD_set_ne false ej] at h5
                have h9 := hWn j dj fj gj h1 h3 h5 h7
                rcases hGs with e | hGs
                · rw [e] at h3; cases h3
                · exact Nat.lt_of_lt_of_le h9 (hGs _ _ hG')
            · have := left_set (listed := listed) (i := i) (by omega) g1 ops.size
              rw [if_pos hi'] at this
              omega
          refine ⟨f, ?_, fun hL => ?_, next⟩
          · cases hAi : memB AL i with
            | false =>
              by_cases hwant : Region.wanted o (yielded ops a.tmps) = true
              · rw [if_pos hwant] at hx ⊢
                exact Oper.wp_mono (fun a' w' ⟨u, e, h1, h2⟩ => ⟨u, e, h1, h2, fun h => by cases h⟩) hx
              · rw [if_neg hwant] at hx ⊢
                exact ⟨hx, rfl⟩
            | true =>
              have hmk := hAL i o hAi hoi
              have hwant : Region.wanted o (yielded ops a.tmps) = true := by unfold Region.wanted; rw [hmk.1]
              rw [if_pos hwant] at hx ⊢
              have := hmk.wp (K := fun u w' => G w w' ∧ f.holds u w') (fun d hd => by rw [hsize]; exact (d2 d hd).1) (fun a' w' h => h) hx
              exact Oper.wp_mono (fun a' w' ⟨u, e, ⟨h1, h2⟩, h3, h4⟩ => ⟨u, e, h1, h2, fun _ => ⟨h3, h4⟩⟩) this
          obtain ⟨v, e, hy⟩ := fl hL
          exact ⟨v, e, hy a w hsize hG trivial (fun j d f' hj hd => hF j d f' (by rw [← f4 j (by have := d1 j hd; omega)]; exact hj) (g2 j hd)) hs (fun t v ht => by simp [look] at ht)⟩
        by_cases hlate : ∃ i, memB L i = true ∧ i ∈ Region.ready .any ops listed
        · obtain ⟨i, hiL, hi⟩ := hlate
          obtain ⟨g1, o, ho, g2⟩ := ready_iff.1 hi
          obtain ⟨f, -, hl2, next⟩ := go i o (hLlt i hiL) hi ho
          obtain ⟨v, rfl, hy⟩ := hl2 hiL
          have hcl' : chkLate (init ++ tail).toArray L = true ∧ noSel (init ++ tail) = true := by
            cases L with
            | nil => cases hiL
            | cons x r => simpa using hcl
          rw [← hops] at hcl'
          have hup : listed.setIfInBounds i true = listed.setIfInBounds i true := rfl
          refine wpAny_first ho (fun j oj cs b hoj => noSel_spec hcl'.2 j oj cs b (by rw [hops] at hoj; simpa using hoj)) (fun c a w h => by rcases hQ with e | hQ; (rw [e] at hiL; cases hiL); exact hQ c a _ _ w h) fuel listed a w (fun j oj hoj hne hun hno => ?_) hi hy (next v w (Gr w) rfl (fun h => by have := hALL i h; rw [hiL] at this; cases this))
          refine chkLate_spec hcl'.1 i o hiL ho j oj hoj (Ne.symm hne) (fun hm => ?_) (fun hm => ?_)
          · obtain ⟨e, he, hb, h1⟩ := mem_direct.1 hm
            exact hno e he hb h1
          · have := g2 j hm
            rw [getD_both hun] at this
            cases this
        refine ⟨(fun hnil => by obtain ⟨i, hi⟩ := hex; rw [hnil] at hi; cases hi), fun i hi => ?_⟩
        obtain ⟨g1, o, ho, g2⟩ := ready_iff.1 hi
        have hi' : i < ops.size := (Array.getElem?_eq_some_iff.1 ho).1
        have hlt : i < init.length := by
          rcases Nat.lt_or_ge i init.length with hh | hh
          · exact hh
          · exfalso
            apply hdone
            -- then all before it have come up
            have hi0 : i = init.length := by
              rcases Nat.eq_or_lt_of_le hh with e | hgt
              · exact e.symm
              · exfalso
                obtain ⟨q, rfl⟩ : ∃ q, i = init.length + (q + 1) := ⟨i - init.length - 1, by omega⟩
                rw [hat2] at ho
                have h3 := g2 _ (ts q o ho).2
                rw [getD_both (hts (init.length + 1 + q - 1) (by omega) (by omega))] at h3
                cases h3
            subst hi0
            have ho2 : tail[0]? = some o := by have := hat2 0; rw [Nat.add_zero] at this; rw [← this, ho]
            have down : ∀ q j, init.length - j ≤ q → j < init.length → memB L j = false → listed.getD j false = true := by
              intro q
              induction q with
              | zero => intro j h1 h2 _; omega
              | succ q ihq =>
                intro j h1 h2 hjL
                obtain ⟨i2, o2, b1, b2, b3, b4, b5⟩ := tm o ho2 j h2 hjL
                rcases Nat.eq_or_lt_of_le b2 with e | hlt2
                · subst e
                  rw [ho] at b3
                  obtain rfl : o = o2 := by injection b3
                  exact g2 j b4
                · exact hdc i2 o2 b3 (ihq i2 (by omega) hlt2 b5) j b4
            -- and of those that may come late none is left, as it could come up
            have all : ∀ q j, j ≤ q → j < init.length → listed.getD j false = true := by
              intro q
              induction q using Nat.strongRecOn with
              | _ q ihq =>
                intro j hjq hj
                cases hjL : memB L j with
                | false => exact down _ j (Nat.le_refl _) hj hjL
                | true =>
                  cases hun : listed.getD j true with
                  | true => exact bothT listed j hl (by omega) hun
                  | false =>
                    exfalso
                    refine hlate ⟨j, hjL, ready_iff.2 ⟨hun, init[j], by rw [hat j hj, List.getElem?_eq_getElem hj], fun x hx => ?_⟩⟩
                    have hlt : x < j := by have := (c1 j _ (List.getElem?_eq_getElem hj)).1 x hx; omega
                    exact ihq x (by omega) x (Nat.le_refl _) (by omega)
            intro j hj
            exact getD_both' (by omega) (all j j (Nat.le_refl _) hj)
        obtain ⟨f, hx, -, next⟩ := go i o hlt hi ho
        unfold wpOp
        rw [ho]
        simp only
        by_cases hwant : Region.wanted o (yielded ops a.tmps) = true
        · rw [if_pos hwant] at hx ⊢
          exact .inl (Oper.wp_mono (fun a' w' ⟨u, e, h1, h2, h3⟩ => by rw [e]; exact next u w' h1 h2 h3) hx)
        · rw [if_neg hwant] at hx ⊢
          exact next undef w (Gr w) hx.1 (fun h => by rw [hx.2] at h; cases h)
  have hrep : ∀ i, (Array.replicate ops.size false).getD i false = false := by intro i; by_cases h : i < ops.size <;> simp [h]
  refine key ops.size _ a w0 (by simp) ?_ ?_ ha.size ha.defers (Gr w0) ?_ ha.slot (fun i _ _ _ _ _ _ _ _ _ _ _ _ h0 => by simp only [hrep] at h0; cases h0) (fun i _ _ _ _ _ h0 => by simp only [hrep] at h0; cases h0) ?_
  · intro i o _ h0
    rw [hrep] at h0; cases h0
  · intro i _ h2
    simp [h2]
  · intro j d f _ h0
    simp only [hrep] at h0; cases h0
  · have : ∀ k, left (Array.replicate ops.size false) k ≤ k := by
      intro k
      induction k with
      | zero => exact Nat.le_refl _
      | succ k ih => unfold left; split <;> omega
    exact this _
end
end Go.Proofs.YtefpejnmhlhnkaaGreatDoor
