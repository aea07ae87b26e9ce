/-
  Texts that were joined: KJ, KL, KM, KN, TLoad, Fits, WodA, WaB, WaC, WaD, WaE, WaF, WaG, WbE, WaS, WaN. Conditions: what each theorem names.
-/
import Derived.Test.YtnlepoplncjliaaGreatDoorZ0
import Derived.Defers
import Derived.Test.YtnlepoplncjliaaGreatDoorRows
import Derived.Shelf.SlIter.Nil
import Derived.Shelf.SortM.Plain
import Derived.Shelf.SortM.SortNone
import Derived.Shelf.Small.Wraps
import Derived.Shelf.Strconv.Itoa3
import Derived.Shelf.Strconv.Atoi
import Derived.Shelf.Strings.Cut
import Derived.Shelf.Strings.Repeat
import Derived.Shelf.Sort.Plain
import Derived.Shelf.Slices.In.SortNone
import Derived.Shelf.Slices.CompactI
set_option linter.unusedSectionVars false
namespace Go.Proofs.YtnlepoplncjliaaGreatDoor
open Go.RowKit
variable [Inhabited (List Deferred)]

/-- A place in the chain; how much of it is done. -/
def posC : List Nat → Nat → Option Nat
  | [], _ => none
  | x :: r, k => bif Nat.beq x k then some 0 else (match posC r k with | some c => some (c + 1) | none => none)
def cntC (S : Nat → Bool) : List Nat → Nat
  | [] => 0
  | c :: r => bif S c then cntC S r + 1 else 0
def updC (S : Nat → Bool) (i : Nat) : Nat → Bool := fun j => if j = i then true else S j
def chkChain (ops : List Oper) : List Nat → Bool
  | [] => true
  | a :: r => (match r with
    | [] => true
    | b :: _ => (match ops[b]? with | some o => memB (direct o) a | none => false)) && chkChain ops r
def nextC (CH : List Nat) (k c : Nat) : Nat := match posC CH k with | some _ => c + 1 | none => c
theorem cntC_none {S : Nat → Bool} : ∀ {CH : List Nat}, (∀ c ∈ CH, S c = false) → cntC S CH = 0
  | [], _ => rfl
  | c :: r, h => by unfold cntC; rw [h c List.mem_cons_self]; rfl
theorem cntC_all {S : Nat → Bool} : ∀ {CH : List Nat}, (∀ c ∈ CH, S c = true) → cntC S CH = CH.length
  | [], _ => rfl
  | c :: r, h => by unfold cntC; rw [h c List.mem_cons_self, cond_true, cntC_all (fun c hc => h c (List.mem_cons_of_mem _ hc))]; rfl
section
variable {ops : List Oper} {S : Nat → Bool} {i : Nat} {o : Oper}
theorem chain_back (hoi : ops[i]? = some o) (hdc : ∀ i o, ops[i]? = some o → S i = true → ∀ x ∈ direct o, S x = true) (hd : ∀ x ∈ direct o, S x = true) : ∀ (r : List Nat) (a c : Nat), chkChain ops (a :: r) = true → posC r i = some c → S a = true
  | [], a, c, _, h => by cases h
  | b :: r, a, c, hch, hp => by
    unfold chkChain at hch
    simp only [Bool.and_eq_true] at hch
    obtain ⟨h1, h2⟩ := hch
    cases hob : ops[b]? with
    | none => rw [hob] at h1; cases h1
    | some ob =>
      rw [hob] at h1
      unfold posC at hp
      cases hb : Nat.beq b i with
      | true =>
        obtain rfl := Nat.eq_of_beq_eq_true hb
        rw [hoi] at hob
        obtain rfl : o = ob := by injection hob
        exact hd a (memB_spec h1)
      | false =>
        rw [hb, cond_false] at hp
        cases hr : posC r i with
        | none => rw [hr] at hp; cases hp
        | some c' => exact hdc b ob hob (chain_back hoi hdc hd r b c' h2 hr) a (memB_spec h1)
theorem cntC_spec (hoi : ops[i]? = some o) (hdc : ∀ i o, ops[i]? = some o → S i = true → ∀ x ∈ direct o, S x = true) (hd : ∀ x ∈ direct o, S x = true) (hS : S i = false) : ∀ {CH : List Nat}, chkChain ops CH = true →
    (∀ c, posC CH i = some c → cntC S CH = c) ∧ cntC (updC S i) CH = nextC CH i (cntC S CH)
  | [], _ => ⟨fun c h => (by cases h), rfl⟩
  | a :: r, hch => by
    have hch' := hch
    unfold chkChain at hch
    simp only [Bool.and_eq_true] at hch
    obtain ⟨h1, h2⟩ := hch
    obtain ⟨ih1, ih2⟩ := cntC_spec hoi hdc hd hS h2
    by_cases hai : a = i
    · subst hai
      have hp : posC (a :: r) a = some 0 := by unfold posC; rw [Nat.beq_refl]; rfl
      have h0 : cntC S (a :: r) = 0 := by unfold cntC; rw [hS]; rfl
      refine ⟨fun c hc => by rw [hp] at hc; injection hc with hc; rw [h0, hc], ?_⟩
      unfold nextC
      rw [hp, h0]
      unfold cntC
      have : updC S a a = true := by unfold updC; simp
      rw [this, cond_true]
      have hz : cntC (updC S a) r = 0 := by
        cases r with
        | nil => rfl
        | cons b r' =>
          simp only at h1
          cases hob : ops[b]? with
          | none => rw [hob] at h1; cases h1
          | some ob =>
            rw [hob] at h1
            have hSb : S b = false := by
              cases hSb : S b with
              | false => rfl
              | true => have := hdc b ob hob hSb a (memB_spec h1); rw [hS] at this; cases this
            have hba : b ≠ a := by
              rintro rfl
              rw [hoi] at hob
              obtain rfl : o = ob := by injection hob
              have := hd b (memB_spec h1)
              rw [hS] at this; cases this
            unfold cntC
            have : updC S a b = false := by unfold updC; rw [if_neg hba]; exact hSb
            rw [this]; rfl
      rw [hz]
    · have hb : Nat.beq a i = false := by
        cases h : Nat.beq a i with
        | false => rfl
        | true => exact absurd (Nat.eq_of_beq_eq_true h) hai
      have hu : updC S i a = S a := by unfold updC; rw [if_neg hai]
      cases hr : posC r i with
      | none =>
        have hp : posC (a :: r) i = none := by unfold posC; rw [hb, cond_false, hr]
        refine ⟨fun c hc => (by rw [hp] at hc; cases hc), ?_⟩
        unfold nextC at ih2 ⊢
        rw [hr] at ih2
        rw [hp]
        show cntC (updC S i) (a :: r) = cntC S (a :: r)
        unfold cntC
        rw [hu, ih2]
      | some c' =>
        have hp : posC (a :: r) i = some (c' + 1) := by unfold posC; rw [hb, cond_false, hr]
        have hSa := chain_back hoi hdc hd r a c' hch' hr
        have hc1 := ih1 c' hr
        have e1 : cntC S (a :: r) = c' + 1 := by
          show (bif S a then cntC S r + 1 else 0) = c' + 1
          rw [hSa, cond_true, hc1]
        refine ⟨fun c hc => by rw [hp] at hc; injection hc with hc; rw [e1, hc], ?_⟩
        unfold nextC at ih2 ⊢
        rw [hr] at ih2
        rw [hp, e1]
        show (bif updC S i a then cntC (updC S i) r + 1 else 0) = _
        rw [hu, hSa, cond_true, ih2, hc1]
end

section
variable (P : Program) (ops : Array Oper) (Q : Exit → Act → World → Prop) (n : Nat) (F0 : List (Nat × Value)) (G : World → World → Prop) (w0 : World) (CH : List Nat) (J : Nat → World → Prop)
def StepJ (k : Nat) (Γ : Env) (o : Oper) (f : Fact) : Prop := ∀ a w c, a.tmps.size = n → G w0 w → J c w → (∀ c', posC CH k = some c' → c = c') → Facts Γ (· ∈ direct o) a w → (∀ t v, look F0 t = some v → a.tmps[t]? = some v) →
  if Region.wanted o (yielded ops a.tmps) then o.wp P a w (fun a' w' => ∃ u, a' = a.put o.dst u ∧ G w w' ∧ f.holds u w' ∧ J (nextC CH k c) w') Q else f.holds undef w ∧ J (nextC CH k c) w
def DrJ (L : List Nat) (B : Env → Prop) : Nat → List Oper → Env → Prop
  | _, [], Γ => B Γ
  | k, o :: r, Γ => ∃ f, Fact.Stable G f ∧ StepJ P ops Q n F0 G w0 CH J k Γ o f ∧ (memB L k = true → Late P ops n F0 G w0 [] (fun _ => True) Γ o f) ∧ DrJ L B (k + 1) r ((k, o.dst, f) :: Γ)
end

section
variable {P : Program} {ops : Array Oper} {Q : Exit → Act → World → Prop} {n : Nat} {F0 : List (Nat × Value)} {G : World → World → Prop} {w0 : World} {CH : List Nat} {J : Nat → World → Prop}
theorem DrJ.out {L : List Nat} {B : Env → Prop} : ∀ (l : List Oper) (k : Nat) (Γ : Env), (∀ j, k ≤ j → Env.find Γ j = none) → DrJ P ops Q n F0 G w0 CH J L B k l Γ →
    ∃ Γ', B Γ' ∧ (∀ j, j < k → Env.find Γ' j = Env.find Γ j) ∧ (∀ j, k + l.length ≤ j → Env.find Γ' j = none) ∧
      ∀ i o, l[i]? = some o → ∃ f Γi, Env.find Γ' (k + i) = some (o.dst, f) ∧ Fact.Stable G f ∧ StepJ P ops Q n F0 G w0 CH J (k + i) Γi o f ∧ (memB L (k + i) = true → Late P ops n F0 G w0 [] (fun _ => True) Γi o f) ∧ ∀ j, j < k + i → Env.find Γi j = Env.find Γ' j
  | [], k, Γ, hk, h => ⟨Γ, h, fun _ _ => rfl, fun j hj => hk j (by simpa using hj), fun i o ho => by simp at ho⟩
  | o :: r, k, Γ, hk, h => by
    obtain ⟨f, hs, hstep, hlate, hr⟩ := h
    have hne : ∀ j, j ≠ k → Env.find ((k, o.dst, f) :: Γ) j = Env.find Γ j := fun j hj => by
      show (bif Nat.beq k j then some (o.dst, f) else Env.find Γ j) = _
      cases hb : Nat.beq k j with
      | true => exact absurd (Nat.eq_of_beq_eq_true hb).symm hj
      | false => rfl
    have heq : Env.find ((k, o.dst, f) :: Γ) k = some (o.dst, f) := by
      show (bif Nat.beq k k then some (o.dst, f) else Env.find Γ k) = _
      rw [Nat.beq_refl]; rfl
    obtain ⟨Γ', h1, h2, h3, h4⟩ := DrJ.out r (k + 1) _ (fun j hj => by rw [hne j (by omega)]; exact hk j (by omega)) hr
    refine ⟨Γ', h1, fun j hj => by rw [h2 j (by omega), hne j (by omega)], fun j hj => h3 j (by simp at hj; omega), fun i o' ho => ?_⟩
    cases i with
    | zero =>
      obtain rfl : o = o' := by simpa using ho
      exact ⟨f, Γ, by rw [Nat.add_zero, h2 k (by omega), heq], hs, by rw [Nat.add_zero]; exact hstep, by rw [Nat.add_zero]; exact hlate, fun j hj => by rw [h2 j (by omega), hne j (by omega)]⟩
    | succ i =>
      obtain ⟨f', Γi, a1, a2, a3, al, a4⟩ := h4 i o' (by simpa using ho)
      exact ⟨f', Γi, by rw [show k + (i + 1) = k + 1 + i from by omega]; exact a1, a2, by rw [show k + (i + 1) = k + 1 + i from by omega]; exact a3, by rw [show k + (i + 1) = k + 1 + i from by omega]; exact al, fun j hj => a4 j (by omega)⟩

theorem wp_drawJ {id : Nat} (L : List Nat) {init tail : List Oper} (hLC : ∀ i, memB L i = true → posC CH i = none) (hCH : chkChain init CH = true) (hCl : ltAll init.length CH = true) (hQ : L = [] ∨ ∀ c (a : Act) d v w, Q (.panic c) (a.put d v) w → Q (.panic c) a w) (hm : P.follows .mixedOrders = true) (hops : ops = (init ++ tail).toArray) (hchk : chkAll n (keysOf F0) L init tail = true) (Gt : ∀ a b c, G a b → G b c → G a c) (Gr : ∀ w, G w w)
    {w : World} (hw0 : w0 = { w with drawn := w.drawn + 1 }) (hJ0 : J 0 w0) (h : DrJ P ops Q n F0 G w0 CH J L (FinX P ops Q n F0 G w0 tail [] (fun w => J CH.length w)) 0 init []) {a : Act} (ha : Fr n F0 a) : (Code.region id ops true).wp P Q a w := by
  refine wp_region_any hm ?_
  rw [← hw0]
  simp only [chkAll, Bool.and_eq_true] at hchk
  obtain ⟨⟨⟨hc1, hc2⟩, hcL⟩, hcl⟩ := hchk
  have hLlt : ∀ i, memB L i = true → i < init.length := fun i hi => ltAll_spec hcL i (memB_spec hi)
  have c1 := chkInit_spec hc1
  have hsz : ops.size = init.length + tail.length := by rw [hops]; simp
  have hat : ∀ i, i < init.length → ops[i]? = init[i]? := fun i hi => by rw [hops]; simp [List.getElem?_append_left hi]
  have hat2 : ∀ r, ops[init.length + r]? = tail[r]? := fun r => by rw [hops]; simp [List.getElem?_append_right]
  obtain ⟨Γ, hfin, -, hnone, hall⟩ := DrJ.out init 0 [] (fun _ _ => rfl) h
  -- the tail's edges
  have t0 : ∀ o, tail[0]? = some o → ∀ x ∈ direct o, x < init.length := by
    intro o ho
    cases tail with
    | nil => simp at ho
    | cons o1 r =>
      obtain rfl : o1 = o := by simpa using ho
      simp only [Bool.and_eq_true] at hc2
      exact ltAll_spec hc2.1.1
  have ts : ∀ i o, tail[i + 1]? = some o → (∀ x ∈ direct o, x < init.length + 1 + i) ∧ init.length + 1 + i - 1 ∈ direct o := by
    intro i o ho
    cases tail with
    | nil => simp at ho
    | cons o1 r =>
      simp only [Bool.and_eq_true] at hc2
      exact chkTail_spec hc2.2 i o (by simpa using ho)
  have tm : ∀ o, tail[0]? = some o → ∀ j, j < init.length → memB L j = false → ∃ (i : Nat) (o' : Oper), j < i ∧ i ≤ init.length ∧ ops[i]? = some o' ∧ j ∈ direct o' ∧ memB L i = false := by
    intro o ho j hj hjL
    cases tail with
    | nil => simp at ho
    | cons o1 r =>
      simp only [Bool.and_eq_true] at hc2
      obtain ⟨i, o', h1, h2, h3, h4⟩ := chkMeet_spec hc2.1.2 j hj (by rw [Nat.zero_add]; exact hjL)
      rw [Nat.zero_add] at h3 h4
      have hi : i < (init ++ [o1]).length := (List.getElem?_eq_some_iff.1 h2).1
      simp at hi
      refine ⟨i, o', h1, by omega, ?_, h3, h4⟩
      rcases Nat.lt_or_ge i init.length with hlt | hge
      · rw [hat i hlt, ← h2, List.getElem?_append_left hlt]
      · obtain rfl : i = init.length := by omega
        have := hat2 0
        rw [Nat.add_zero] at this
        rw [this, ← h2, List.getElem?_append_right (Nat.le_refl _)]
        simp
  have bothT : ∀ (listed : Array Bool) x, listed.size = ops.size → x < ops.size → listed.getD x true = true → listed.getD x false = true := by
    intro listed x hl hx h
    have hxl : x < listed.size := by omega
    simp [hxl] at h ⊢; exact h
  have hall2 : ∀ (listed : Array Bool) {w : World}, listed.size = ops.size → (∀ i, i < init.length → listed.getD i true = true) → J (cntC (fun j => listed.getD j false) CH) w → J CH.length w := by
    intro listed w hl h hJ
    rw [cntC_all (fun c hc => bothT listed c hl (by have := ltAll_spec hCl c hc; omega) (h c (ltAll_spec hCl c hc)))] at hJ
    exact hJ
  -- the first part
  have key : ∀ (fuel : Nat) (listed : Array Bool) (a : Act) (w : World), listed.size = ops.size → (∀ i o, ops[i]? = some o → listed.getD i false = true → ∀ x ∈ direct o, listed.getD x false = true) → (∀ i, init.length ≤ i → i < ops.size → listed.getD i true = false) →
      a.tmps.size = n → a.defers = default → G w0 w → Facts Γ (fun j => listed.getD j false = true) a w → (∀ t v, look F0 t = some v → a.tmps[t]? = some v) → J (cntC (fun j => listed.getD j false) CH) w → left listed ops.size ≤ fuel → wpAny P .any ops Q fuel listed a w := by
    intro fuel
    induction fuel with
    | zero =>
      intro listed a w hl hdc hts hsize hdef hG hF hs hJw hf
      have hall1 := left_zero (Nat.le_zero.1 hf)
      have hlen : init.length = ops.size := by
        rcases Nat.lt_or_ge init.length ops.size with hh | hh
        · have := hall1 _ hh; rw [hts _ (Nat.le_refl _) hh] at this; cases this
        · omega
      refine phase2 hops t0 ts 0 0 listed a w hl (Nat.zero_le _) (fun i hi => hall1 i (by omega)) (fun i hi hi2 => by omega) (by omega) ?_
      rw [List.drop_zero]
      have hlis : ∀ j d f, Env.find Γ j = some (d, f) → listed.getD j false = true := fun j d f hj => by
        rcases Nat.lt_or_ge j init.length with hh | hh
        · exact bothT listed j hl (by omega) (hall1 j (by omega))
        · rw [hnone j (by omega)] at hj; cases hj
      exact hfin a w hsize hdef hG (hall2 listed hl (fun i hi => hall1 i (by omega)) hJw) (fun j d f hj _ => hF j d f hj (hlis j d f hj)) hs (fun t v ht => by simp [look] at ht)
    | succ fuel ih =>
      intro listed a w hl hdc hts hsize hdef hG hF hs hJw hf
      by_cases hdone : ∀ i, i < init.length → listed.getD i true = true
      · refine phase2 hops t0 ts (fuel + 1) 0 listed a w hl (Nat.zero_le _) (fun i hi => hdone i (by omega)) (fun i hi hi2 => hts i (by omega) hi2) ?_ ?_
        · -- as many are left as the tail has
          have : ∀ k, k ≤ tail.length → left listed (init.length + k) = left listed init.length + k := by
            intro k
            induction k with
            | zero => intro _; rfl
            | succ k ihk =>
              intro hk
              show left listed (init.length + k) + (if listed.getD (init.length + k) true then 0 else 1) = _
              rw [ihk (by omega), hts (init.length + k) (by omega) (by omega)]
              simp; omega
          have := this tail.length (Nat.le_refl _)
          rw [← hsz] at this
          omega
        · rw [List.drop_zero]
          have hlis : ∀ j d f, Env.find Γ j = some (d, f) → listed.getD j false = true := fun j d f hj => by
            rcases Nat.lt_or_ge j init.length with hh | hh
            · exact bothT listed j hl (by omega) (hdone j hh)
            · rw [hnone j (by omega)] at hj; cases hj
          exact hfin a w hsize hdef hG (hall2 listed hl hdone hJw) (fun j d f hj _ => hF j d f hj (hlis j d f hj)) hs (fun t v ht => by simp [look] at ht)
      · -- the least one that has not come up may come up
        have hex : ∃ i, i ∈ Region.ready .any ops listed := by
          have hex0 : ∃ i, i < init.length ∧ listed.getD i true = false := by
            refine Classical.byContradiction fun hno => hdone fun i hi => ?_
            cases hb : listed.getD i true with
            | true => rfl
            | false => exact absurd ⟨i, hi, hb⟩ hno
          have hmin : ∀ m i, i ≤ m → i < init.length → listed.getD i true = false → ∃ j, j < init.length ∧ listed.getD j true = false ∧ ∀ x, x < j → listed.getD x true = true := by
            intro m
            induction m with
            | zero => intro i hi h1 h2; exact ⟨i, h1, h2, fun x hx => by omega⟩
            | succ m ihm =>
              intro i hi h1 h2
              by_cases hx : ∃ x, x < i ∧ listed.getD x true = false
              · obtain ⟨x, hx1, hx2⟩ := hx
                exact ihm x (by omega) (by omega) hx2
              · refine ⟨i, h1, h2, fun x hx1 => ?_⟩
                cases hb : listed.getD x true with
                | true => rfl
                | false => exact absurd ⟨x, hx1, hb⟩ hx
          obtain ⟨i0, hi0, hb0⟩ := hex0
          obtain ⟨j, hj1, hj2, hj3⟩ := hmin i0 i0 (Nat.le_refl _) hi0 hb0
          refine ⟨j, ready_iff.2 ⟨hj2, init[j], by rw [hat j hj1, List.getElem?_eq_getElem hj1], fun x hx => ?_⟩⟩
          have hlt : x < j := by have := (c1 j _ (List.getElem?_eq_getElem hj1)).1 x hx; omega
          exact bothT listed x hl (by omega) (hj3 x hlt)
        -- what one of the first part's operations comes to
        have go : ∀ i o, i < init.length → i ∈ Region.ready .any ops listed → ops[i]? = some o → ∃ f : Fact, (if Region.wanted o (yielded ops a.tmps) = true then o.wp P a w (fun a' w' => ∃ u, a' = a.put o.dst u ∧ G w w' ∧ f.holds u w' ∧ J (cntC (fun j => (listed.setIfInBounds i true).getD j false) CH) w') Q else f.holds undef w ∧ J (cntC (fun j => (listed.setIfInBounds i true).getD j false) CH) w) ∧
            (memB L i = true → (∃ v, f = .eq v ∧ Yields P ops o v a) ∧ J (cntC (fun j => (listed.setIfInBounds i true).getD j false) CH) w) ∧ ∀ u w', G w w' → f.holds u w' → J (cntC (fun j => (listed.setIfInBounds i true).getD j false) CH) w' → wpAny P .any ops Q fuel (listed.setIfInBounds i true) (a.put o.dst u) w' := by
          intro i o hlt hi ho
          obtain ⟨g1, o1, ho1, g2⟩ := ready_iff.1 hi
          rw [ho] at ho1
          obtain rfl : o = o1 := by injection ho1
          have hi' : i < ops.size := (Array.getElem?_eq_some_iff.1 ho).1
          have hoi : init[i]? = some o := by rw [← hat i hlt]; exact ho
          obtain ⟨f, Γi, f1, f2, f3, fl, f4⟩ := hall i o hoi
          rw [Nat.zero_add] at f1 f3 f4 fl
          obtain ⟨d1, d2⟩ := c1 i o hoi
          have hSi : listed.getD i false = false := getD_both g1
          have hupd : (fun j => (listed.setIfInBounds i true).getD j false) = updC (fun j => listed.getD j false) i := by
            funext j
            unfold updC
            by_cases e : i = j
            · subst e; simp [getD_set_self false (show i < listed.size by omega)]
            · rw [getD_set_ne false e]
              rw [if_neg (fun h => e h.symm)]
          have hcnt := cntC_spec (ops := init) (S := fun j => listed.getD j false) (i := i) (o := o) hoi (fun i2 o2 h1 h2 => hdc i2 o2 (by rw [hat i2 (List.getElem?_eq_some_iff.1 h1).1]; exact h1) h2) g2 hSi hCH
          have hx := f3 a w _ hsize hG hJw hcnt.1 (fun j d f' hj hd => hF j d f' (by rw [← f4 j (by have := d1 j hd; omega)]; exact hj) (g2 j hd)) hs
          rw [← hcnt.2, ← hupd] at hx
          have hslot : ∀ u j d f, j ≠ i → Env.find Γ j = some (some d, f) → (a.put o.dst u).tmps[d]? = a.tmps[d]? := by
            intro u j d f hji hj
            rcases Nat.lt_or_ge j init.length with hh | hh
            · have hoj : init[j]? = some init[j] := List.getElem?_eq_getElem hh
              obtain ⟨fj, Γj, q1, -⟩ := hall j _ hoj
              rw [Nat.zero_add, hj] at q1
              injection q1 with q1
              injection q1 with q1 _
              have hdj : init[j].dst = some d := q1.symm
              have hdi : o.dst ≠ some d := fun hdi => (d2 d hdi).2.2.2 j _ hoj hji hdj
              cases hd : o.dst with
              | none => rfl
              | some d0 =>
                have : d0 ≠ d := fun e' => hdi (by rw [hd, e'])
                simp only [Act.put]
                rw [Array.getElem?_setIfInBounds_ne this]
            · rw [hnone j (by omega)] at hj; cases hj
          -- what holds behind it
          have next : ∀ u w', G w w' → f.holds u w' → J (cntC (fun j => (listed.setIfInBounds i true).getD j false) CH) w' → wpAny P .any ops Q fuel (listed.setIfInBounds i true) (a.put o.dst u) w' := by
            intro u w' hG' hu hmk
            refine ih _ _ _ (by simp [hl]) ?_ ?_ ?_ ?_ (Gt _ _ _ hG hG') ?_ ?_ hmk ?_
            · intro i2 o2 h1 h2 x hx2
              by_cases e : i = i2
              · subst e
                rw [ho] at h1
                obtain rfl : o = o2 := by injection h1
                exact getD_set_true (g2 x hx2)
              · rw [getD_set_ne false e] at h2
                exact getD_set_true (hdc i2 o2 h1 h2 x hx2)
            · intro i2 h1 h2
              rw [getD_set_ne true (by omega)]
              exact hts i2 h1 h2
            · cases hd : o.dst <;> simp [Act.put, hsize]
            · cases hd : o.dst <;> simp [Act.put, hdef]
            · intro j d f' hj hjl
              by_cases e : i = j
              · subst e
                rw [f1] at hj
                injection hj with hj
                injection hj with e1 e2
                subst e1 e2
                refine ⟨u, fun t ht => ?_, hu⟩
                have := (d2 t ht).1
                rw [ht]
                simp [Act.put, hsize, this]
              · rw [getD_set_ne false e] at hjl
                obtain ⟨u', h1, h2⟩ := hF j d f' hj hjl
                refine ⟨u', fun t ht => ?_, ?_⟩
                · rcases Nat.lt_or_ge j init.length with hh | hh
                  · have hoj : init[j]? = some init[j] := List.getElem?_eq_getElem hh
                    obtain ⟨fj, Γj, q1, -⟩ := hall j _ hoj
                    rw [Nat.zero_add, hj] at q1
                    injection q1 with q1
                    injection q1 with q1 _
                    have hdj : init[j].dst = some t := by rw [← q1]; exact ht
                    have hdi : o.dst ≠ some t := fun hdi => (d2 t hdi).2.2.2 j _ hoj (fun e' => e e'.symm) hdj
                    cases hd : o.dst with
                    | none => exact h1 t ht
                    | some d0 =>
                      have : d0 ≠ t := fun e' => hdi (by rw [hd, e'])
                      simp only [Act.put]
                      rw [Array.getElem?_setIfInBounds_ne this]
                      exact h1 t ht
                  · rw [hnone j (by omega)] at hj; cases hj
                · have hst : Fact.Stable G f' := by
                    rcases Nat.lt_or_ge j init.length with hh | hh
                    · obtain ⟨fj, Γj, q1, q2, -⟩ := hall j _ (List.getElem?_eq_getElem hh)
                      rw [Nat.zero_add, hj] at q1
                      injection q1 with q1
                      injection q1 with _ q1
                      rw [q1]; exact q2
                    · rw [hnone j (by omega)] at hj; cases hj
                  cases f' with
                  | eq v => exact h2
                  | sat Φ => exact hst u' w w' hG' h2
            · intro t v ht
              cases hd : o.dst with
              | none => exact hs t v ht
              | some d0 =>
                have : d0 ≠ t := fun e' => (d2 d0 hd).2.2.1 (by rw [e']; exact look_keys ht)
                simp only [Act.put]
                rw [Array.getElem?_setIfInBounds_ne this]
                exact hs t v ht
            · have := left_set (listed := listed) (i := i) (by omega) g1 ops.size
              rw [if_pos hi'] at this
              omega
          refine ⟨f, hx, fun hL => ?_, next⟩
          obtain ⟨v, e, hy⟩ := fl hL
          refine ⟨⟨v, e, hy a w hsize hG trivial (fun j d f' hj hd => hF j d f' (by rw [← f4 j (by have := d1 j hd; omega)]; exact hj) (g2 j hd)) hs (fun t v ht => by simp [look] at ht)⟩, ?_⟩
          rw [hupd, hcnt.2]
          unfold nextC
          rw [hLC i hL]
          exact hJw
        by_cases hlate : ∃ i, memB L i = true ∧ i ∈ Region.ready .any ops listed
        · obtain ⟨i, hiL, hi⟩ := hlate
          obtain ⟨g1, o, ho, g2⟩ := ready_iff.1 hi
          obtain ⟨f, -, hl2, next⟩ := go i o (hLlt i hiL) hi ho
          obtain ⟨⟨v, rfl, hy⟩, hJ2⟩ := hl2 hiL
          have hcl' : chkLate (init ++ tail).toArray L = true ∧ noSel (init ++ tail) = true := by
            cases L with
            | nil => cases hiL
            | cons x r => simpa using hcl
          rw [← hops] at hcl'
          have hup : listed.setIfInBounds i true = listed.setIfInBounds i true := rfl
          refine wpAny_first ho (fun j oj cs b hoj => noSel_spec hcl'.2 j oj cs b (by rw [hops] at hoj; simpa using hoj)) (fun c a w h => by rcases hQ with e | hQ; (rw [e] at hiL; cases hiL); exact hQ c a _ _ w h) fuel listed a w (fun j oj hoj hne hun hno => ?_) hi hy (next v w (Gr w) rfl hJ2)
          refine chkLate_spec hcl'.1 i o hiL ho j oj hoj (Ne.symm hne) (fun hm => ?_) (fun hm => ?_)
          · obtain ⟨e, he, hb, h1⟩ := mem_direct.1 hm
            exact hno e he hb h1
          · have := g2 j hm
            rw [getD_both hun] at this
            cases this
        refine ⟨(fun hnil => by obtain ⟨i, hi⟩ := hex; rw [hnil] at hi; cases hi), fun i hi => ?_⟩
        obtain ⟨g1, o, ho, g2⟩ := ready_iff.1 hi
        have hi' : i < ops.size := (Array.getElem?_eq_some_iff.1 ho).1
        have hlt : i < init.length := by
          rcases Nat.lt_or_ge i init.length with hh | hh
          · exact hh
          · exfalso
            apply hdone
            -- then all before it have come up
            have hi0 : i = init.length := by
              rcases Nat.eq_or_lt_of_le hh with e | hgt
              · exact e.symm
              · exfalso
                obtain ⟨q, rfl⟩ : ∃ q, i = init.length + (q + 1) := ⟨i - init.length - 1, by omega⟩
                rw [hat2] at ho
                have h3 := g2 _ (ts q o ho).2
                rw [getD_both (hts (init.length + 1 + q - 1) (by omega) (by omega))] at h3
                cases h3
            subst hi0
            have ho2 : tail[0]? = some o := by have := hat2 0; rw [Nat.add_zero] at this; rw [← this, ho]
            have down : ∀ q j, init.length - j ≤ q → j < init.length → memB L j = false → listed.getD j false = true := by
              intro q
              induction q with
              | zero => intro j h1 h2 _; omega
              | succ q ihq =>
                intro j h1 h2 hjL
                obtain ⟨i2, o2, b1, b2, b3, b4, b5⟩ := tm o ho2 j h2 hjL
                rcases Nat.eq_or_lt_of_le b2 with e | hlt2
                · subst e
                  rw [ho] at b3
                  obtain rfl : o = o2 := by injection b3
                  exact g2 j b4
                · exact hdc i2 o2 b3 (ihq i2 (by omega) hlt2 b5) j b4
            -- and of those that may come late none is left, as it could come up
            have all : ∀ q j, j ≤ q → j < init.length → listed.getD j false = true := by
              intro q
              induction q using Nat.strongRecOn with
              | _ q ihq =>
                intro j hjq hj
                cases hjL : memB L j with
                | false => exact down _ j (Nat.le_refl _) hj hjL
                | true =>
                  cases hun : listed.getD j true with
                  | true => exact bothT listed j hl (by omega) hun
                  | false =>
                    exfalso
                    refine hlate ⟨j, hjL, ready_iff.2 ⟨hun, init[j], by rw [hat j hj, List.getElem?_eq_getElem hj], fun x hx => ?_⟩⟩
                    have hlt : x < j := by have := (c1 j _ (List.getElem?_eq_getElem hj)).1 x hx; omega
                    exact ihq x (by omega) x (Nat.le_refl _) (by omega)
            intro j hj
            exact getD_both' (by omega) (all j j (Nat.le_refl _) hj)
        obtain ⟨f, hx, -, next⟩ := go i o hlt hi ho
        unfold wpOp
        rw [ho]
        simp only
        by_cases hwant : Region.wanted o (yielded ops a.tmps) = true
        · rw [if_pos hwant] at hx ⊢
          exact .inl (Oper.wp_mono (fun a' w' ⟨u, e, h1, h2, h3⟩ => by rw [e]; exact next u w' h1 h2 h3) hx)
        · rw [if_neg hwant] at hx ⊢
          exact next undef w (Gr w) hx.1 hx.2
  have hrep : ∀ i, (Array.replicate ops.size false).getD i false = false := by intro i; by_cases h : i < ops.size <;> simp [h]
  refine key ops.size _ a w0 (by simp) ?_ ?_ ha.size ha.defers (Gr w0) ?_ ha.slot (by rw [cntC_none (fun c _ => hrep c)]; exact hJ0) ?_
  · intro i o _ h0
    rw [hrep] at h0; cases h0
  · intro i _ h2
    simp [h2]
  · intro j d f _ h0
    simp only [hrep] at h0; cases h0
  · have : ∀ k, left (Array.replicate ops.size false) k ≤ k := by
      intro k
      induction k with
      | zero => exact Nat.le_refl _
      | succ k ih => unfold left; split <;> omega
    exact this _

end
section
variable {P : Program} {ops : Array Oper} {Q : Exit → Act → World → Prop} {n : Nat} {F0 : List (Nat × Value)} {G : World → World → Prop} {w0 : World} {CH : List Nat} {J : Nat → World → Prop} {L : List Nat} {B : Env → Prop} {k : Nat} {Γ : Env} {o : Oper} {r : List Oper} {v : Value} {f : Fact} {Φ : Value → World → Prop}
/-- An operation that leaves the world as it is. -/
theorem DJ.val (hp : posC CH k = none) (Gr : ∀ w, G w w) (hu : uniq Γ = true) (hrun : ∀ w, G w0 w → Runs P (evX [] F0 Γ o) o w v w) (hg : o.guard = none) (hr : DrJ P ops Q n F0 G w0 CH J L B (k + 1) r ((k, o.dst, .eq v) :: Γ)) (hl : memB L k = false := by rfl) : DrJ P ops Q n F0 G w0 CH J L B k (o :: r) Γ :=
  ⟨.eq v, trivial, (by
    intro a w c h1 h2 h3 h4 h5 h6
    rw [if_pos (by simp [Region.wanted, hg])]
    unfold Oper.wp
    rw [hrun w h2 a.eval (evX_spec hu h5 h6 (fun t v ht => by cases ht)), Oper.upon_value]
    refine ⟨v, rfl, Gr w, rfl, ?_⟩
    unfold nextC
    rw [hp]
    exact h3), (fun h => by rw [hl] at h; cases h), hr⟩
theorem DJ.late (hp : posC CH k = none) (hl : memB L k = true) (hu : uniq Γ = true) (hrun : ∀ w, Runs P (evX [] F0 Γ o) o w v w) (Gr : ∀ w, G w w) (hg : o.guard = none) (hr : DrJ P ops Q n F0 G w0 CH J L B (k + 1) r ((k, o.dst, .eq v) :: Γ)) : DrJ P ops Q n F0 G w0 CH J L B k (o :: r) Γ :=
  ⟨.eq v, trivial, (by
    intro a w c h1 h2 h3 h4 h5 h6
    rw [if_pos (by simp [Region.wanted, hg])]
    unfold Oper.wp
    rw [hrun w a.eval (evX_spec hu h5 h6 (fun t v ht => by cases ht)), Oper.upon_value]
    refine ⟨v, rfl, Gr w, rfl, ?_⟩
    unfold nextC
    rw [hp]
    exact h3), (fun _ => ⟨v, rfl, fun a w _ _ _ h4 h5 h6 => .inl ⟨by simp [Region.wanted, hg], fun w' => hrun w' a.eval (evX_spec hu h4 h5 h6)⟩⟩), hr⟩
/-- A call of the chain. -/
theorem DJ.chain {fn : FuncId} {args : Array Value} (c : Nat) (hp : posC CH k = some c) (hu : uniq Γ = true) (he : ∀ w, Enters P (evX [] F0 Γ o) o w fn args) (hg : o.guard = none) (hc : ∀ w, G w0 w → J c w → Calls P fn args w fun e w' => e = .returned v ∧ G w w' ∧ J (c + 1) w')
    (hr : DrJ P ops Q n F0 G w0 CH J L B (k + 1) r ((k, o.dst, .eq v) :: Γ)) (hl : memB L k = false := by rfl) : DrJ P ops Q n F0 G w0 CH J L B k (o :: r) Γ :=
  ⟨.eq v, trivial, (by
    intro a w c2 h1 h2 h3 h4 h5 h6
    rw [if_pos (by simp [Region.wanted, hg])]
    obtain rfl := h4 c hp
    unfold Oper.wp
    rw [he w a.eval (evX_spec hu h5 h6 (fun t v ht => by cases ht)), Oper.upon_enter]
    exact (hc w h2 h3).mono fun e w' ⟨e1, e2, e3⟩ => by
      subst e1
      refine ⟨v, rfl, e2, rfl, ?_⟩
      unfold nextC
      rw [hp]
      exact e3), (fun h => by rw [hl] at h; cases h), hr⟩
/-- An operation that makes memory, or a call that leaves all there is. -/
theorem DJ.of (hp : posC CH k = none) (hGG : ∀ w w', Grow w w' → G w w') (hJ : ∀ c w w', Grow w w' → J c w → J c w') (hs : Fact.Stable G f) (h : ∀ w, G w0 w → DrW P ops Q n F0 Grow w L (fun Γ' => Γ' = (k, o.dst, f) :: Γ) k [o] Γ)
    (hr : DrJ P ops Q n F0 G w0 CH J L B (k + 1) r ((k, o.dst, f) :: Γ)) (hl : memB L k = false := by rfl) : DrJ P ops Q n F0 G w0 CH J L B k (o :: r) Γ :=
  ⟨f, hs, (by
    intro a w c h1 h2 h3 h4 h5 h6
    obtain ⟨f', -, hst, -, hB⟩ := h w h2
    have hf : f' = f := by
      have hB' : (k, o.dst, f') :: Γ = (k, o.dst, f) :: Γ := hB
      injection hB' with hB' _
      injection hB' with _ hB'
      injection hB'
    subst hf
    have hx := hst a w h1 (Grow.refl w) trivial h5 h6 (fun t v ht => by cases ht)
    have hn : nextC CH k c = c := by unfold nextC; rw [hp]
    rw [hn]
    split
    · rename_i hw
      rw [if_pos hw] at hx
      exact Oper.wp_mono (fun a' w' ⟨u, e, g1, g2⟩ => ⟨u, e, hGG _ _ g1, g2, hJ _ _ _ g1 h3⟩) hx
    · rename_i hw
      rw [if_neg hw] at hx
      exact ⟨hx, h3⟩), (fun h => by rw [hl] at h; cases h), hr⟩
theorem DJ.nil (h : B Γ) : DrJ P ops Q n F0 G w0 CH J L B k [] Γ := h
/-- A region that draws, with a chain. -/
theorem Cd.drawJ (m : Nat) {id : Nat} {l : List Oper} {w : World} (hm : P.follows .mixedOrders = true) (L CH : List Nat) (hLC : ∀ i, memB L i = true → posC CH i = none) (hCH : chkChain (l.take m) CH = true) (hCl : ltAll (l.take m).length CH = true) (hQ : L = [] ∨ ∀ c (a : Act) d v w, Q (.panic c) (a.put d v) w → Q (.panic c) a w) (hchk : chkAll n (keysOf F0) L (l.take m) (l.drop m) = true) (G : World → World → Prop) (Gr : ∀ w, G w w) (Gt : ∀ a b c, G a b → G b c → G a c) (J : Nat → World → Prop)
    (h : ∀ w0, Below w.heap.size w w0 → w0.heap.size = w.heap.size → J 0 w0 ∧ DrJ P l.toArray Q n F0 G w0 CH J L (FinX P l.toArray Q n F0 G w0 (l.drop m) [] (fun w => J CH.length w)) 0 (l.take m) []) : Cd P (.region id l.toArray true) Q n F0 w := fun _ ha =>
  wp_drawJ L hLC hCH hCl hQ hm (by rw [List.take_append_drop]) hchk Gt Gr rfl (h { w with drawn := w.drawn + 1 } ⟨rfl, rfl, rfl, Nat.le_refl _, fun _ _ => rfl⟩ rfl).1 (h { w with drawn := w.drawn + 1 } ⟨rfl, rfl, rfl, Nat.le_refl _, fun _ _ => rfl⟩ rfl).2 ha
end
end Go.Proofs.YtnlepoplncjliaaGreatDoor

namespace Go.Proofs.YtnlepoplncjliaaGreatDoor
open Go.RowKit
variable [Inhabited (List Deferred)]

section
variable {P : Program} {E : Operand → Option Value} {o : Oper} {w : World} {T : TypeId}
theorem Runs.sliceLit {ps : Array (Nat × Operand)} {m e s : Nat} {vs : List Value} {z : Value} (ho : o.op = .buildSlice T m ps) (hx : evP E ps.toList = some (enumF 0 vs)) (hm : vs.length = m) (hT : P.underlying T = some (.slice e)) (hs : sizeIs P e s = true) (hz : zeroIs P e = some (some z)) (hs0 : 0 < s) (hsm : m * s ≤ 16777216) (hvs : sizes s vs) :
    Runs P E o w (.slice (some ⟨w.heap.size, 0, none⟩) m m) (w.alloc (.cells (flatC vs).toArray e)) := by
  obtain ⟨i, hi, hsz⟩ := sizeIs_spec hs
  have hz' : i.zero = some z := by unfold zeroIs at hz; rw [hi] at hz; injection hz
  subst hm
  rcases Nat.eq_zero_or_pos vs.length with h0 | h0
  · have : vs = [] := List.eq_nil_of_length_eq_zero h0
    subst this
    refine Runs.buildSlice ho hx ?_
    simp [Instr.buildSlice, run_underlying hT, sizeOf, typeInfo, hi, enumF, Instr.fill, newRow, flatC]
    have : Array.map (fun (_ : Nat) => (default : Value)) (Array.range 0) = #[] := Array.eq_empty_of_size_eq_zero (by simp)
    rw [this]
  · refine Runs.buildSlice ho hx (run_buildSlice w T e vs.length _ _ i z hT hi hz' (by rw [hsz]; omega) (by rw [hsz]; exact Nat.ne_of_gt (Nat.mul_pos h0 hs0)) ?_)
    rw [hsz, enumF_zip, ← flatC_eq]
    exact Great.fill_whole hs0 vs _ (sizes_spec hvs) (by simp)
end
theorem Dr.slice {P : Program} {ops : Array Oper} {Q : Exit → Act → World → Prop} {n : Nat} {F0 : List (Nat × Value)} {w0 : World} {Γ : Env} {o : Oper} {r : List Oper} {B : Env → Prop} {L : List Nat} {k T : Nat} {ps : Array (Nat × Operand)} {m e s : Nat} {vs : List Value} {z : Value} (hu : uniq Γ = true) (ho : o.op = .buildSlice T m ps) (hx : evP (evX [] F0 Γ o) ps.toList = some (enumF 0 vs)) (hm : vs.length = m) (hT : P.underlying T = some (.slice e)) (hs : sizeIs P e s = true) (hz : zeroIs P e = some (some z)) (hs0 : 0 < s) (hsm : m * s ≤ 16777216) (hvs : sizes s vs) (hg : o.guard = none)
    (hr : DrW P ops Q n F0 Grow w0 L B (k + 1) r ((k, o.dst, .sat (NewSl w0.heap.size m e (flatC vs).toArray)) :: Γ)) (hl : memB L k = false := by rfl) : DrW P ops Q n F0 Grow w0 L B k (o :: r) Γ :=
  Dr.make hu NewSl.stable hg (fun w hG => ⟨_, _, Runs.sliceLit ho hx hm hT hs hz hs0 hsm hvs, (new_of w _ _).below, _, rfl, (new_of w _ _).blk, hG.size⟩) hr hl
theorem DJ.slice {P : Program} {ops : Array Oper} {Q : Exit → Act → World → Prop} {n : Nat} {F0 : List (Nat × Value)} {G : World → World → Prop} {w0 : World} {CH : List Nat} {J : Nat → World → Prop} {Γ : Env} {o : Oper} {r : List Oper} {B : Env → Prop} {L : List Nat} {k T : Nat} {ps : Array (Nat × Operand)} {m e s : Nat} {vs : List Value} {z : Value} (B0 : Nat) (hp : posC CH k = none) (hGG : ∀ w w', Grow w w' → G w w') (hGs : ∀ w, G w0 w → B0 ≤ w.heap.size) (hJ : ∀ c w w', Grow w w' → J c w → J c w') (hst : ∀ v w w', G w w' → NewSl B0 m e (flatC vs).toArray v w → NewSl B0 m e (flatC vs).toArray v w')
    (hu : uniq Γ = true) (ho : o.op = .buildSlice T m ps) (hx : evP (evX [] F0 Γ o) ps.toList = some (enumF 0 vs)) (hm : vs.length = m) (hT : P.underlying T = some (.slice e)) (hs : sizeIs P e s = true) (hz : zeroIs P e = some (some z)) (hs0 : 0 < s) (hsm : m * s ≤ 16777216) (hvs : sizes s vs) (hg : o.guard = none)
    (hr : DrJ P ops Q n F0 G w0 CH J L B (k + 1) r ((k, o.dst, .sat (NewSl B0 m e (flatC vs).toArray)) :: Γ)) (hl : memB L k = false := by rfl) : DrJ P ops Q n F0 G w0 CH J L B k (o :: r) Γ :=
  DJ.of (f := .sat (NewSl B0 m e (flatC vs).toArray)) hp hGG hJ hst (fun w hG => Dr.make hu NewSl.stable hg (fun w2 hG2 => ⟨_, _, Runs.sliceLit ho hx hm hT hs hz hs0 hsm hvs, (new_of w2 _ _).below, _, rfl, (new_of w2 _ _).blk, Nat.le_trans (hGs w hG) hG2.size⟩) rfl hl) hr hl
end Go.Proofs.YtnlepoplncjliaaGreatDoor

namespace Go.Proofs.YtnlepoplncjliaaGreatDoor
open Go.RowKit

section
variable {P : Program} {ops : Array Oper} {Q : Exit → Act → World → Prop} {rest : List Oper} {o : Oper} {n : Nat} {F : List (Nat × Value)} {w : World}
/-- A deferred call of a function by its name. -/
def dcallF (g : FuncId) (args : List Value) : Deferred := { target := .fn (.func g) #[], args := args.toArray }
/-- The same body, called when another function leaves. -/
theorem CallsD.start {f : FuncId} {fn : Func} {c : Code} {args : List Value} {u : FrameMode} {R : Ending → World → Prop} (n : Nat) (hf : P.funcs[f]? = some fn) (hb : fn.body = some c) (hn : fn.ntmps = n) (hle : Nat.ble args.length n = true)
    (h : Cd P c (bodyPost P fn R) n (startF 0 args) w) : CallsD P f args.toArray u w fun e u' w' => u' = u ∧ R e w' := by
  have hle' := Nat.le_of_ble_eq_true hle
  refine callsD_of_wp hf hb (h _ ⟨?_, rfl, fun t v ht => ?_⟩)
  · show (args.toArray ++ Array.replicate (fn.ntmps - args.toArray.size) undef).size = n
    simp; omega
  · obtain ⟨j, rfl, hj⟩ := look_startF args 0 t v ht
    have hlt : j < args.length := (List.getElem?_eq_some_iff.1 hj).1
    show (args.toArray ++ Array.replicate (fn.ntmps - args.toArray.size) undef)[0 + j]? = some v
    rw [Nat.zero_add, Array.getElem?_append_left (by simpa using hlt)]
    simpa using hj
end
end Go.Proofs.YtnlepoplncjliaaGreatDoor

namespace Go.Proofs.YtnlepoplncjliaaGreatDoor
open Go.RowKit

section
variable {P : Program} {Q : Exit → Act → World → Prop} {n : Nat} {F F' : List (Nat × Value)} {w : World}
def JoinD (n : Nat) (F : List (Nat × Value)) (J : Inhabited (List Deferred) → World → Prop) (a : Act) (w : World) : Prop := ∃ I, @Fr I n F a ∧ J I w
end
end Go.Proofs.YtnlepoplncjliaaGreatDoor

namespace Go.Proofs.YtnlepoplncjliaaGreatDoor
open Go.RowKit

theorem Own.form {w : World} {B size n : Nat} {e : TypeId} {v : Value} {xs : List Value} (h : Own w B e size v n xs) (h0 : 0 < n) : ∃ g cap cur, v = .slice (some ⟨g, 0, none⟩) n cap ∧ B ≤ g ∧ Blk w g e cur ∧ ∀ (j : Nat) (x : Value), xs[j]? = some x → cur[j]? = some x := by
  obtain ⟨hl, ⟨_, h1⟩ | ⟨g, cap, cur, rfl, h1, h2, h3, h4, h5, h6⟩⟩ := h.row
  · omega
  · refine ⟨g, cap, cur, rfl, h1, h2, fun j x hx => ?_⟩
    rw [← h6] at hx
    have := List.getElem?_take_of_lt (l := cur.toList) (i := j) (j := n * size) (by
      rcases Nat.lt_or_ge j (n * size) with h | h
      · exact h
      · rw [List.getElem?_eq_none (by rw [List.length_take]; omega)] at hx; cases hx)
    rw [this] at hx
    simpa using hx
section
variable {P : Program} {E : Operand → Option Value} {o : Oper} {w : World} {x y : Operand} {T : TypeId}
/-- A struct within a block. -/
theorem Runs.loadP {g off m : Nat} {cs : Array Value} {ps : List Value} {t : TypeId} {d : TypeDesc} (ho : o.op = .load T x) (hx : E x = some (.pointer (some ⟨g, off, none⟩))) (hT : P.underlying T = some d) (hd : (match d with | .struct _ | .array _ _ => true | _ => false) = true) (hb : Blk w g t cs) (hs : sizeIs P T m = true) (hm : ps.length = m) (hp : ∀ j v, ps[j]? = some v → cs[off + j]? = some v) : Runs P E o w (.agg ps.toArray) w := by
  obtain ⟨i, hi, hsz⟩ := sizeIs_spec hs
  exact .loadN (cs := ps) ho hx hT hd hi (by omega) (fun j v hj => by
    have hadd : (⟨g, off, none⟩ : Addr).add j = ⟨g, off + j, none⟩ := by unfold Addr.add; split <;> simp_all
    rw [hadd, hb.cell (off + j)]
    exact hp j v hj)
theorem Runs.indexBN {k : IntKind} {g j m c e s : Nat} {p : Int} (ho : o.op = .indexAddr T x y) (hx : E x = some (.slice (some ⟨g, 0, none⟩) m c)) (hy : E y = some (.int k p)) (hT : P.underlying T = some (.slice e)) (hs : sizeIs P e s = true) (hp : p = (j : Int)) (hlt : j < m) : Runs P E o w (.pointer (some ⟨g, s * j, none⟩)) w := by
  have h := Runs.indexN (w := w) ho hx hy hT hs hp hlt
  have e : (⟨g, 0, none⟩ : Addr).add (j * s) = ⟨g, s * j, none⟩ := by unfold Addr.add; split <;> simp_all [Nat.mul_comm]
  rwa [e] at h
end
section
variable {P : Program} {E : Operand → Option Value} {o : Oper} {w : World} {x : Operand} {T : TypeId}
end
end Go.Proofs.YtnlepoplncjliaaGreatDoor

namespace Go.Proofs.YtnlepoplncjliaaGreatDoor
open Go.RowKit

def I64 (a : Int) : Prop := -9223372036854775808 ≤ a ∧ a ≤ 9223372036854775807
/-- Is it an int64? -/
def fits (a : Int) : Bool := decide (-9223372036854775808 ≤ a) && decide (a ≤ 9223372036854775807)
def smallOf (a : Int) : Int := if fits a = true then a else 0
end Go.Proofs.YtnlepoplncjliaaGreatDoor

namespace Go.Proofs.YtnlepoplncjliaaGreatDoor
open Go.RowKit

theorem Runs.nilCheck {P : Program} {E : Operand → Option Value} {o : Oper} {w : World} {x : Operand} {ad : Addr} (ho : o.op = .nilCheck x) (hx : E x = some (.pointer (some ad))) : Runs P E o w (.pointer (some ad)) w := fun ρ h => by
  unfold execOp; simp only [ho]; rw [h _ _ hx]; rfl
theorem zero_uint8 : zeroIs Tryz.prog 5 = some (some (.int .u8 0)) := by kernel_rfl
/-- What a Writer's methods leave as it was. -/
structure Wf (B : Nat) (w w' : World) : Prop where
  below : Below (min B w.heap.size) w w'
  keep : ∀ k t cs, Blk w k t cs → t ≠ 120 → t ≠ 5 → Blk w' k t cs
section
variable {B : Nat} {w w' w'' : World}
theorem Wf.refl (B : Nat) (w : World) : Wf B w w := ⟨Below.refl _ _, fun _ _ _ h _ _ => h⟩
theorem Wf.trans (h : Wf B w w') (k : Wf B w' w'') : Wf B w w'' := ⟨h.below.trans (k.below.mono (by have := h.below.size; omega)), fun i t cs hb h1 h2 => k.keep i t cs (h.keep i t cs hb h1 h2) h1 h2⟩
theorem Wf.grow (h : Below w.heap.size w w') : Wf B w w' := ⟨h.mono (Nat.min_le_right _ _), fun _ _ _ hb _ _ => hb.step h⟩
theorem Wf.step (h : Wf B w w') (k : Below w'.heap.size w' w'') : Wf B w w'' := h.trans (Wf.grow k)
theorem Wf.wf (h : Wf B w w') (k : Wf B w' w'') : Wf B w w'' := h.trans k
theorem Wf.to (h : Wf B w w') (hB : B ≤ w.heap.size) : Below B w w' := by have := h.below; rwa [Nat.min_eq_left hB] at this
theorem Wf.put0 {g B' : Nat} {T : TypeId} {cur cs : Array Value} (h : Wf B w w') (k : Blk w' g T cur) (p : Put w' w'' g T cs) (e : B' ≤ g) (hB : B ≤ g) (hT : T = 120 ∨ T = 5) : Wf B w w'' :=
  h.trans ⟨(p.below hB k.lt).mono (Nat.min_le_left _ _), fun i t cs hb h1 h2 => hb.put p (hb.ne k (by rcases hT with rfl | rfl <;> assumption))⟩
theorem Wf.put {g : Nat} {T : TypeId} {cur cs : Array Value} (h : Wf B w w') (k : Blk w' g T cur) (p : Put w' w'' g T cs) (e : w.heap.size ≤ g) : Wf B w w'' :=
  ⟨h.below.trans (p.below (by omega) k.lt), fun i t cs hb h1 h2 => (h.keep i t cs hb h1 h2).put p (by have := hb.lt; omega)⟩
end
theorem Blk.wf {B : Nat} {w w' : World} {k : Nat} {t : TypeId} {cs : Array Value} (h : Blk w k t cs) (f : Wf B w w') (h1 : t ≠ 120 := by decide) (h2 : t ≠ 5 := by decide) : Blk w' k t cs := f.keep k t cs h h1 h2
theorem Reads.wf {B B2 size n : Nat} {w w' : World} {A : Option Addr} {xs : List Value} (h : Reads w B2 size A n xs) (f : Wf B w w') (hB : B2 ≤ B) (hs : B2 ≤ w.heap.size) : Reads w' B2 size A n xs := h.below (f.below.mono (by omega))
/-- A Writer, and what it has laid. -/
structure Wr (w : World) (B g : Nat) (bs : List Nat) : Prop where
  ge : B ≤ g
  bytes : ∀ d ∈ bs, d < 256
  cell : ∃ v, Blk w g 120 #[v] ∧ Own w B 5 1 v bs.length (Bt bs)
theorem Wr.size {w : World} {B g : Nat} {bs : List Nat} (h : Wr w B g bs) : B ≤ w.heap.size := by
  obtain ⟨v, hb, -⟩ := h.cell
  have := hb.lt
  have := h.ge
  omega
theorem Wr.step {w w' : World} {B g : Nat} {bs : List Nat} (h : Wr w B g bs) (k : Below w.heap.size w w') : Wr w' B g bs := by
  obtain ⟨v, hb, ho⟩ := h.cell
  exact ⟨h.ge, h.bytes, v, hb.step k, ho.step k⟩
theorem Wr.put {w w' : World} {B B' g g' : Nat} {bs : List Nat} {T : TypeId} {cur cs : Array Value} (h : Wr w B g bs) (k : Blk w g' T cur) (p : Put w w' g' T cs) (_e : B' ≤ g') (h1 : 120 ≠ T := by decide) (h2 : 5 ≠ T := by decide) : Wr w' B g bs := by
  obtain ⟨v, hb, ho⟩ := h.cell
  exact ⟨h.ge, h.bytes, v, hb.put p (hb.ne k h1), ho.put k p _e h2⟩
theorem App.wf {w w' : World} {B n : Nat} {v : Value} {xs : List Value} (h : App w w' B v) (o : Own w B 5 1 v n xs) : Wf B w w' :=
  ⟨h.below.mono (Nat.min_le_left _ _), fun i t cs hb _ h2 => hb.grown h.grown (fun e => own_blk_ne o.row hb (fun e => h2 e.symm) e.symm)⟩
theorem put_any (B g B2 m c : Nat) (A : Option Addr) (bs new : List Nat) (w : World) (h : Wr w B g bs) (hr : Reads w B2 1 A m (Bt new)) (hn : ∀ d ∈ new, d < 256) (hl : bs.length + new.length ≤ 1000000000) :
    Calls Tryz.prog 89 #[.pointer (some ⟨g, 0, none⟩), .slice A m c] w fun e w' => e = .returned (.pointer (some ⟨g, 0, none⟩)) ∧ Wf B w w' ∧ Wr w' B g (bs ++ new) := by
  obtain ⟨v, k0, own⟩ := h.cell
  have hB := h.size
  have hge := h.ge
  have hm : new.length = m := by have := hr.1; rw [length_Bt] at this; omega
  refine Calls.start 17 Tryz.func89 rfl rfl rfl ?_
  refine Cd.seq ?_
  refine Cd.region ?_
  refine Seq.val (Runs.assign rfl rfl) rfl rfl rfl ?_
  refine Seq.nil ?_
  refine Post.weak (F' := [(0, _), (1, _), (4, _)]) ⟨rfl, rfl, rfl, trivial⟩ ?_
  refine Post.then_ ?_
  refine Cd.seq ?_
  refine Cd.seq ?_
  refine Cd.region ?_
  refine Seq.val (Runs.move rfl rfl) rfl rfl rfl ?_
  refine Seq.val (Runs.neqP rfl rfl rfl Tryz.underlying118) rfl rfl rfl ?_
  refine Seq.nil ?_
  refine Post.weak (F' := [(0, _), (1, _), (4, _), (6, _)]) ⟨rfl, rfl, rfl, rfl, trivial⟩ ?_
  refine Post.then_ ?_
  refine Cd.condT rfl rfl ?_
  refine Cd.region ?_
  refine Seq.val (Runs.move rfl rfl) rfl rfl rfl ?_
  refine Seq.val (Runs.move rfl rfl) rfl rfl rfl ?_
  refine Seq.val (Runs.nilCheck rfl rfl) rfl rfl rfl ?_
  refine Seq.val (Runs.fieldB 0 rfl rfl Tryz.underlying120 rfl (by kernel_rfl)) rfl rfl rfl ?_
  refine Seq.val (Runs.loadB rfl rfl Tryz.underlying60 rfl k0 rfl) rfl rfl rfl ?_
  refine Seq.val (Runs.move rfl rfl) rfl rfl rfl ?_
  refine Seq.append rfl rfl rfl Tryz.underlying60 (by kernel_rfl) zero_uint8 rfl (by decide) (b := 1) (by kernel_rfl) own hr (by intro u hu; obtain ⟨d, -, rfl⟩ := List.mem_map.1 hu; rfl) hB (by simp only [maxLen]; omega) (by omega) rfl rfl rfl ?_
  intro v1 w1 own1 ha
  have k1 := k0.grown ha.grown (fun e => own_blk_ne own.row k0 (by decide) e.symm)
  have f1 := ha.wf own
  clear k0
  have k0 := k1
  obtain ⟨A1, c1, rfl, -⟩ := own1.reads
  have e0 : B ≤ g := hge
  have wf : Wf B w w1 := f1
  refine Seq.val (Runs.nilCheck rfl rfl) rfl rfl rfl ?_
  refine Seq.val (Runs.fieldB 0 rfl rfl Tryz.underlying120 rfl (by kernel_rfl)) rfl rfl rfl ?_
  refine Seq.store1 rfl rfl rfl (by kernel_rfl) rfl rfl k0 rfl rfl rfl ?_
  intro w1 pw1
  replace k0 := pw1.blk
  refine Seq.nil ?_
  refine Post.weak (F' := [(0, _), (1, _), (4, _), (6, _)]) ⟨rfl, rfl, rfl, rfl, trivial⟩ ?_
  refine Post.then_ ?_
  refine Cd.seq ?_
  refine Cd.region ?_
  refine Seq.val (Runs.move rfl rfl) rfl rfl rfl ?_
  refine Seq.val (Runs.assign rfl rfl) rfl rfl rfl ?_
  refine Seq.nil ?_
  refine Post.weak (F' := [(0, _), (1, _), (4, _), (6, _)]) ⟨rfl, rfl, rfl, rfl, trivial⟩ ?_
  refine Post.then_ ?_
  refine Cd.ret ?_
  have own2 := own1.put k1 pw1 hge
  have f2 := wf.put0 k1 pw1 hge hge (.inl rfl)
  refine Post.end1 rfl rfl (.inl rfl) ?_
  refine ⟨rfl, f2, hge, fun d hd => ?_, _, k0, ?_⟩
  · rcases List.mem_append.1 hd with hd | hd
    · exact h.bytes d hd
    · exact hn d hd
  · rw [Bt_append, List.length_append, hm]
    exact own2
theorem wrap8 (m : Nat) : IntKind.u8.wrap (m : Int) = ((m % 256 : Nat) : Int) := by rw [IntKind.wrap_u8]; omega
theorem Runs.convU {P : Program} {E : Operand → Option Value} {o : Oper} {w : World} {x : Operand} {T T' : TypeId} {p : Int} {r : Nat} (ho : o.op = .convert T T' x) (hx : E x = some (.int .i64 p)) (hS : P.underlying T = some (.int .i64)) (hT : P.underlying T' = some (.int .u64)) (hr : p % 18446744073709551616 = (r : Int)) : Runs P E o w (.int .u64 (r : Int)) w :=
  .convI ho hx hS hT (by rw [IntKind.wrap_u64, hr])
theorem raw_any (B g : Nat) (s bs : List Nat) (w : World) (h : Wr w B g bs) (hs : ∀ d ∈ s, d < 256) (hl : bs.length + s.length ≤ 1000000000) :
    Calls Tryz.prog 64 #[.pointer (some ⟨g, 0, none⟩), .string (strOf s)] w fun e w' => e = .returned (.pointer (some ⟨g, 0, none⟩)) ∧ Wf B w w' ∧ Wr w' B g (bs ++ s) := by
  have wf := Wf.refl B w
  have wr := h
  refine Calls.start 9 Tryz.func64 rfl rfl rfl ?_
  refine Cd.seq ?_
  refine Cd.region ?_
  refine Seq.val (Runs.assign rfl rfl) rfl rfl rfl ?_
  refine Seq.nil ?_
  refine Post.weak (F' := [(0, _), (1, _), (4, _)]) ⟨rfl, rfl, rfl, trivial⟩ ?_
  refine Post.then_ ?_
  refine Cd.seq ?_
  refine Cd.region ?_
  refine Seq.val (Runs.move rfl rfl) rfl rfl rfl ?_
  refine Seq.val (Runs.move rfl rfl) rfl rfl rfl ?_
  refine Seq.convSB rfl rfl Tryz.underlying9 Tryz.underlying60 Tryz.underlying5 hs rfl rfl rfl ?_
  intro g7 c7 w1 hc7 n7
  replace wf := wf.step n7.below
  replace wr := wr.step n7.below
  have hrd := n7.reads
  refine Seq.call (Enters.func rfl rfl rfl (run_enter Tryz.func89 (by kernel_rfl) rfl)) rfl rfl rfl (put_any B g _ _ c7 _ _ s _ wr hrd hs hl) ?_
  clear wr
  rintro e w1 ⟨rfl, fw1, wr⟩
  refine ⟨_, rfl, ?_⟩
  replace wf := wf.wf fw1
  refine Seq.val (Runs.assign rfl rfl) rfl rfl rfl ?_
  refine Seq.nil ?_
  refine Post.weak (F' := [(0, _), (1, _), (4, _)]) ⟨rfl, rfl, rfl, trivial⟩ ?_
  refine Post.then_ ?_
  refine Cd.ret ?_
  refine Post.end1 rfl rfl (.inl rfl) ?_
  exact ⟨rfl, wf, wr⟩
theorem wbytes_any (B g : Nat) (bs : List Nat) (w : World) (h : Wr w B g bs) :
    Calls Tryz.prog 66 #[.pointer (some ⟨g, 0, none⟩)] w fun e w' => e = .returned (.string (strOf bs)) ∧ Grow w w' := by
  have bel := Below.refl w.heap.size w
  obtain ⟨v, k0, own⟩ := h.cell
  obtain ⟨A, c, rfl, hr⟩ := own.reads
  refine Calls.start 10 Tryz.func66 rfl rfl rfl ?_
  refine Cd.seq ?_
  refine Cd.region ?_
  refine Seq.val (Runs.assign rfl rfl) rfl rfl rfl ?_
  refine Seq.nil ?_
  refine Post.weak (F' := [(0, _), (2, _)]) ⟨rfl, rfl, trivial⟩ ?_
  refine Post.then_ ?_
  refine Cd.seq ?_
  refine Cd.seq ?_
  refine Cd.region ?_
  refine Seq.val (Runs.move rfl rfl) rfl rfl rfl ?_
  refine Seq.val (Runs.eqlP rfl rfl rfl Tryz.underlying118) rfl rfl rfl ?_
  refine Seq.nil ?_
  refine Post.weak (F' := [(0, _), (2, _), (4, _)]) ⟨rfl, rfl, rfl, trivial⟩ ?_
  refine Post.then_ ?_
  refine Cd.condF rfl rfl ?_
  refine Cd.skip ?_
  refine Post.then_ ?_
  refine Cd.seq ?_
  refine Cd.region ?_
  refine Seq.val (Runs.move rfl rfl) rfl rfl rfl ?_
  refine Seq.val (Runs.nilCheck rfl rfl) rfl rfl rfl ?_
  refine Seq.val (Runs.fieldB 0 rfl rfl Tryz.underlying120 rfl (by kernel_rfl)) rfl rfl rfl ?_
  refine Seq.val (Runs.loadB rfl rfl Tryz.underlying60 rfl k0 rfl) rfl rfl rfl ?_
  refine Seq.val (Runs.convBS rfl rfl Tryz.underlying60 Tryz.underlying5 Tryz.underlying9 hr h.bytes) rfl rfl rfl ?_
  refine Seq.val (Runs.assign rfl rfl) rfl rfl rfl ?_
  refine Seq.nil ?_
  refine Post.weak (F' := [(0, _), (2, _), (4, _)]) ⟨rfl, rfl, rfl, trivial⟩ ?_
  refine Post.then_ ?_
  refine Cd.ret ?_
  refine Post.end1 rfl rfl (.inl rfl) ?_
  exact ⟨rfl, bel⟩
def Byt (s : List Nat) : Prop := ∀ d ∈ s, d < 256
theorem Byt.drop {s : List Nat} (h : Byt s) (k : Nat) : Byt (s.drop k) := fun d hd => h d (List.mem_of_mem_drop hd)
theorem Byt.take {s : List Nat} (h : Byt s) (k : Nat) : Byt (s.take k) := fun d hd => h d (List.mem_of_mem_take hd)
theorem Byt.tail {c : Nat} {s : List Nat} (h : Byt (c :: s)) : Byt s := fun d hd => h d (List.mem_cons_of_mem _ hd)
theorem Byt.right {a s : List Nat} (h : Byt (a ++ s)) : Byt s := fun d hd => h d (List.mem_append_right _ hd)
theorem Byt.left {a s : List Nat} (h : Byt (a ++ s)) : Byt a := fun d hd => h d (List.mem_append_left _ hd)
theorem Byt.app {a s : List Nat} (h : Byt a) (k : Byt s) : Byt (a ++ s) := fun d hd => by
  rcases List.mem_append.1 hd with hd | hd
  · exact h d hd
  · exact k d hd
def rawP (n : Int) (s : List Nat) : Option (List Nat × List Nat) := if 0 ≤ n ∧ n ≤ (s.length : Int) then some (s.take n.toNat, s.drop n.toNat) else none
/-- What a Reader's methods leave as it was: all but its block. -/
structure Kf (g : Nat) (w w' : World) : Prop where
  only : w.grownBy w' (some g)
section
variable {g : Nat} {w w' w'' : World}
theorem Kf.refl (g : Nat) (w : World) : Kf g w w := ⟨only_of_below (Below.refl _ _) _⟩
theorem Kf.trans (h : Kf g w w') (k : Kf g w' w'') : Kf g w w'' := ⟨only_trans h.only k.only⟩
theorem Kf.step (h : Kf g w w') (k : Below w'.heap.size w' w'') : Kf g w w'' := ⟨only_below h.only k⟩
theorem Kf.size (h : Kf g w w') : w.heap.size ≤ w'.heap.size := h.only.size
theorem Kf.put {g' : Nat} {T : TypeId} {cur cs : Array Value} (h : Kf g w w') (_k : Blk w' g' T cur) (p : Put w' w'' g' T cs) (e : w.heap.size ≤ g') : Kf g w w'' :=
  ⟨p.grown.os.trans h.only.os, p.grown.tape.trans h.only.tape, p.grown.output.trans h.only.output, by have := p.size; have := h.size; omega, fun k hk hne => (p.grown.block k (by have := h.size; omega) (fun e' => by injection e' with e'; omega)).trans (h.only.block k hk hne)⟩
theorem Kf.own {T : TypeId} {cs : Array Value} (h : Kf g w w') (p : Put w' w'' g T cs) : Kf g w w'' := h.trans ⟨p.grown⟩
theorem Kf.to {B : Nat} (h : Kf g w w') (hB : B ≤ g) (hg : g < w.heap.size) : Below B w w' := only_to_below h.only hB hg
end
/-- A Reader, and what is left of its bytes; none: it is a bad one. -/
def Rd (T : TypeId) (w : World) (g : Nat) (o : Option (List Nat)) : Prop := ∃ s b, Blk w g T #[.string (strOf s), .bool b] ∧ Byt s ∧ o = if b = true then none else some s
section
variable {T : TypeId} {w w' w'' : World} {g : Nat} {o : Option (List Nat)}
theorem Rd.step (h : Rd T w g o) (k : Below w.heap.size w w') : Rd T w' g o := by
  obtain ⟨s, b, h1, h2, h3⟩ := h
  exact ⟨s, b, h1.step k, h2, h3⟩
theorem Rd.put {g' B : Nat} {T' : TypeId} {cur cs : Array Value} (h : Rd T w g o) (k : Blk w g' T' cur) (p : Put w w' g' T' cs) (_e : B ≤ g') (hne : T ≠ T' := by decide) : Rd T w' g o := by
  obtain ⟨s, b, h1, h2, h3⟩ := h
  exact ⟨s, b, h1.put p (h1.ne k hne), h2, h3⟩
theorem Rd.lt (h : Rd T w g o) : g < w.heap.size := by
  obtain ⟨s, b, h1, -⟩ := h
  exact h1.lt
theorem Kf.kf (h : Kf g w w') (f : Kf g w' w'') (_rd : Rd T w' g o) : Kf g w w'' := h.trans f
theorem Blk.kf {k : Nat} {t : TypeId} {cs : Array Value} (h : Blk w k t cs) (f : Kf g w w') (rd : Rd T w g o) (hne : t ≠ T := by decide) : Blk w' k t cs := by
  obtain ⟨s, b, h1, -⟩ := rd
  exact h.grown f.only (fun e => h.ne h1 hne (by injection e))
theorem Own.kf {B size n : Nat} {e : TypeId} {v : Value} {xs : List Value} (h : Own w B e size v n xs) (f : Kf g w w') (rd : Rd T w g o) (hne : e ≠ T := by decide) : Own w' B e size v n xs := by
  obtain ⟨s, b, h1, -⟩ := rd
  exact ⟨h.row.kept f.only (own_ne_blk h.row h1 hne)⟩
theorem Rd.bad {s : List Nat} (k : Blk w g T #[.string (strOf s), .bool true]) (hs : Byt s) : Rd T w g none := ⟨s, true, k, hs, rfl⟩
theorem Rd.good {s : List Nat} (k : Blk w g T #[.string (strOf s), .bool false]) (hs : Byt s) : Rd T w g (some s) := ⟨s, false, k, hs, rfl⟩
end
/-- What is left behind. -/
def rest {α : Type} (p : List Nat → Option (α × List Nat)) (o : Option (List Nat)) : Option (List Nat) := (o.bind p).map Prod.snd
def val1 {α : Type} (p : List Nat → Option (α × List Nat)) (o : Option (List Nat)) (z : α) : Prop := ∀ a r, o.bind p = some (a, r) → z = a
def rawV (n : Int) (o : Option (List Nat)) : List Nat := ((o.bind (rawP n)).map Prod.fst).getD []
theorem good_any (g : Nat) (o : Option (List Nat)) (w : World) (h : Rd 169 w g o) : Calls Tryz.prog 123 #[.pointer (some ⟨g, 0, none⟩)] w fun e w' => e = .returned (.bool o.isSome) ∧ Grow w w' := by
  obtain ⟨s, b, k0, hs, rfl⟩ := h
  have bel := Below.refl w.heap.size w
  refine Calls.start 12 Tryz.func123 rfl rfl rfl ?_
  refine Cd.seq ?_
  refine Cd.region ?_
  refine Seq.val (Runs.assign rfl rfl) rfl rfl rfl ?_
  refine Seq.nil ?_
  refine Post.weak (F' := [(0, _), (2, _)]) ⟨rfl, rfl, trivial⟩ ?_
  refine Post.then_ ?_
  refine Cd.seq ?_
  refine Cd.region ?_
  refine Seq.val (Runs.move rfl rfl) rfl rfl rfl ?_
  refine Seq.val (Runs.neqP rfl rfl rfl Tryz.underlying133) rfl rfl rfl ?_
  refine Seq.val (Runs.move rfl rfl) rfl rfl rfl ?_
  refine SeqC.start ?_
  refine SeqC.open rfl rfl rfl rfl rfl rfl rfl (fun hcx => Runs.move rfl rfl) ?_
  refine SeqC.next rfl rfl rfl rfl rfl rfl rfl (fun hcx => Runs.nilCheck rfl rfl) ?_
  refine SeqC.next rfl rfl rfl rfl rfl rfl rfl (fun hcx => Runs.fieldB 1 rfl rfl Tryz.underlying169 rfl (by kernel_rfl)) ?_
  refine SeqC.next rfl rfl rfl rfl rfl rfl rfl (fun hcx => Runs.loadB rfl rfl Tryz.underlying4 rfl k0 rfl) ?_
  refine SeqC.next rfl rfl rfl rfl rfl rfl rfl (fun hcx => Runs.not rfl rfl) ?_
  refine SeqC.and rfl rfl rfl rfl rfl rfl rfl ?_
  refine Seq.val (Runs.assign rfl rfl) rfl rfl rfl ?_
  refine Seq.nil ?_
  refine Post.weak (F' := [(0, _), (2, _)]) ⟨rfl, rfl, trivial⟩ ?_
  refine Post.then_ ?_
  refine Cd.ret ?_
  refine Post.end1 rfl rfl (.inl rfl) ?_
  exact ⟨ret1 (bool_eq (by cases b <;> rfl)), bel⟩
theorem fail_any (g : Nat) (o : Option (List Nat)) (w : World) (h : Rd 169 w g o) : Calls Tryz.prog 154 #[.pointer (some ⟨g, 0, none⟩)] w fun e w' => e = .returned (.tuple #[]) ∧ Kf g w w' ∧ Rd 169 w' g none := by
  obtain ⟨s, b, k0, hs, rfl⟩ := h
  refine Calls.start 7 Tryz.func154 rfl rfl rfl ?_
  refine Cd.seq ?_
  refine Cd.region ?_
  refine Seq.val (Runs.move rfl rfl) rfl rfl rfl ?_
  refine Seq.val (Runs.neqP rfl rfl rfl Tryz.underlying133) rfl rfl rfl ?_
  refine Seq.nil ?_
  refine Post.weak (F' := [(0, _), (3, _)]) ⟨rfl, rfl, trivial⟩ ?_
  refine Post.then_ ?_
  refine Cd.condT rfl rfl ?_
  refine Cd.region ?_
  refine Seq.val (Runs.move rfl rfl) rfl rfl rfl ?_
  refine Seq.val (Runs.nilCheck rfl rfl) rfl rfl rfl ?_
  refine Seq.val (Runs.fieldB 1 rfl rfl Tryz.underlying169 rfl (by kernel_rfl)) rfl rfl rfl ?_
  refine Seq.store1 rfl rfl rfl (by kernel_rfl) rfl rfl k0 rfl rfl rfl ?_
  intro w1 pw1
  replace k0 := pw1.blk
  refine Seq.nil ?_
  refine Post.weak (F' := [(0, _), (3, _)]) ⟨rfl, rfl, trivial⟩ ?_
  refine Post.end0 rfl (.inr rfl) ?_
  exact ⟨rfl, ⟨pw1.grown⟩, Rd.bad k0 hs⟩
theorem rraw_any (g : Nat) (n : Int) (o : Option (List Nat)) (w : World) (h : Rd 169 w g o) : Calls Tryz.prog 122 #[.pointer (some ⟨g, 0, none⟩), .int .i64 n] w fun e w' => e = .returned (.string (strOf (rawV n o))) ∧ Kf g w w' ∧ Rd 169 w' g (rest (rawP n) o) := by
  have rd := h
  obtain ⟨s, b, k0, hs, ho⟩ := h
  have kf := Kf.refl g w
  refine Calls.start 40 Tryz.func122 rfl rfl rfl ?_
  refine Cd.seq ?_
  refine Cd.region ?_
  refine Seq.val (Runs.assign rfl rfl) rfl rfl rfl ?_
  refine Seq.nil ?_
  refine Post.weak (F' := [(0, _), (1, _), (4, _)]) ⟨rfl, rfl, rfl, trivial⟩ ?_
  refine Post.then_ ?_
  refine Cd.seq ?_
  refine Cd.seq ?_
  refine Cd.region ?_
  refine Seq.val (Runs.move rfl rfl) rfl rfl rfl ?_
  refine Seq.call (Enters.func rfl rfl rfl (run_enter Tryz.func123 (by kernel_rfl) rfl)) rfl rfl rfl (good_any g o _ rd) ?_
  rintro e w5 ⟨rfl, hb5⟩
  refine ⟨_, rfl, ?_⟩
  replace kf := kf.step hb5
  replace rd := rd.step hb5
  replace k0 := k0.step hb5
  refine Seq.val (Runs.not rfl rfl) rfl rfl rfl ?_
  refine Seq.val (Runs.move rfl rfl) rfl rfl rfl ?_
  refine SeqC.start ?_
  refine SeqC.open rfl rfl rfl rfl rfl rfl rfl (fun hcx => Runs.move rfl rfl) ?_
  refine SeqC.next rfl rfl rfl rfl rfl rfl rfl (fun hcx => Runs.lss rfl rfl rfl) ?_
  refine SeqC.or rfl rfl rfl rfl rfl rfl rfl ?_
  refine Seq.val (Runs.move rfl rfl) rfl rfl rfl ?_
  refine SeqC.start ?_
  refine SeqC.open rfl rfl rfl rfl rfl rfl rfl (fun hcx => Runs.move rfl rfl) ?_
  refine SeqC.next rfl rfl rfl rfl rfl rfl rfl (fun hcx => Runs.move rfl rfl) ?_
  refine SeqC.next rfl rfl rfl rfl rfl rfl rfl (fun hcx => Runs.nilCheck rfl rfl) ?_
  refine SeqC.next rfl rfl rfl rfl rfl rfl rfl (fun hcx => Runs.fieldB 0 rfl rfl Tryz.underlying169 rfl (by kernel_rfl)) ?_
  refine SeqC.next rfl rfl rfl rfl rfl rfl rfl (fun hcx => Runs.loadB rfl rfl Tryz.underlying9 rfl k0 rfl) ?_
  refine SeqC.next rfl rfl rfl rfl rfl rfl rfl (fun hcx => Runs.lenL rfl rfl Tryz.underlying9) ?_
  refine SeqC.next rfl rfl rfl rfl rfl rfl rfl (fun hcx => Runs.gtr rfl rfl rfl) ?_
  refine SeqC.or rfl rfl rfl rfl rfl rfl rfl ?_
  refine Seq.nil ?_
  refine Post.weak (F' := [(0, _), (1, _), (4, _), (21, _)]) ⟨rfl, rfl, rfl, rfl, trivial⟩ ?_
  refine Post.then_ ?_
  refine Cd.cond rfl (fun h => ?_) (fun h => ?_)
  · have hr : o.bind (rawP n) = none := by
      rw [ho]
      cases b with
      | true => rfl
      | false =>
        rw [ho] at h
        simp at h
        show rawP n s = none
        unfold rawP
        rw [if_neg (by omega)]
    refine Cd.seq ?_
    refine Cd.region ?_
    refine Seq.val (Runs.move rfl rfl) rfl rfl rfl ?_
    refine Seq.call (Enters.func rfl rfl rfl (run_enter Tryz.func154 (by kernel_rfl) rfl)) rfl rfl rfl (fail_any g o _ rd) ?_
    rintro e w1 ⟨rfl, fw1, rd'⟩
    refine ⟨_, rfl, ?_⟩
    replace kf := kf.kf fw1 rd
    replace rd := rd'
    clear rd'
    refine Seq.nil ?_
    refine Post.weak (F' := [(0, _), (1, _), (4, _), (21, _)]) ⟨rfl, rfl, rfl, rfl, trivial⟩ ?_
    refine Post.then_ ?_
    refine Cd.seq ?_
    refine Cd.region ?_
    refine Seq.val (Runs.assign rfl rfl) rfl rfl rfl ?_
    refine Seq.nil ?_
    refine Post.weak (F' := [(0, _), (1, _), (4, _), (21, _)]) ⟨rfl, rfl, rfl, rfl, trivial⟩ ?_
    refine Post.then_ ?_
    refine Cd.ret ?_
    refine Post.then_ret ?_
    refine Post.end1 rfl rfl (.inl rfl) ?_
    unfold rest rawV
    rw [hr]
    exact ⟨rfl, kf, rd⟩
  · have hb : b = false := by
      cases b with
      | false => rfl
      | true => rw [ho] at h; simp at h
    subst hb
    have ho' : o = some s := ho
    rw [ho'] at h
    simp at h
    have hr : o.bind (rawP n) = some (s.take n.toNat, s.drop n.toNat) := by
      rw [ho']
      show rawP n s = _
      unfold rawP
      rw [if_pos (by omega)]
    refine Cd.skip ?_
    refine Post.then_ ?_
    refine Cd.seq ?_
    refine Cd.region ?_
    refine Seq.val (Runs.move rfl rfl) rfl rfl rfl ?_
    refine Seq.val (Runs.nilCheck rfl rfl) rfl rfl rfl ?_
    refine Seq.val (Runs.fieldB 0 rfl rfl Tryz.underlying169 rfl (by kernel_rfl)) rfl rfl rfl ?_
    refine Seq.val (Runs.loadB rfl rfl Tryz.underlying9 rfl k0 rfl) rfl rfl rfl ?_
    refine Seq.val (Runs.move rfl rfl) rfl rfl rfl ?_
    refine Seq.val (Runs.sliceTo rfl rfl rfl Tryz.underlying9 (j := n.toNat) (by omega) (by omega)) rfl rfl rfl ?_
    refine Seq.val (Runs.assign rfl rfl) rfl rfl rfl ?_
    refine Seq.nil ?_
    refine Post.weak (F' := [(0, _), (1, _), (4, _), (5, _), (21, _)]) ⟨rfl, rfl, rfl, rfl, rfl, trivial⟩ ?_
    refine Post.then_ ?_
    refine Cd.seq ?_
    refine Cd.region ?_
    refine Seq.val (Runs.move rfl rfl) rfl rfl rfl ?_
    refine Seq.val (Runs.move rfl rfl) rfl rfl rfl ?_
    refine Seq.val (Runs.nilCheck rfl rfl) rfl rfl rfl ?_
    refine Seq.val (Runs.fieldB 0 rfl rfl Tryz.underlying169 rfl (by kernel_rfl)) rfl rfl rfl ?_
    refine Seq.val (Runs.loadB rfl rfl Tryz.underlying9 rfl k0 rfl) rfl rfl rfl ?_
    refine Seq.val (Runs.move rfl rfl) rfl rfl rfl ?_
    refine Seq.val (Runs.sliceFrom rfl rfl rfl Tryz.underlying9 (j := n.toNat) (by omega) (by omega)) rfl rfl rfl ?_
    refine Seq.val (Runs.nilCheck rfl rfl) rfl rfl rfl ?_
    refine Seq.val (Runs.fieldB 0 rfl rfl Tryz.underlying169 rfl (by kernel_rfl)) rfl rfl rfl ?_
    refine Seq.store1 rfl rfl rfl (by kernel_rfl) rfl rfl k0 rfl rfl rfl ?_
    intro w1 pw1
    replace k0 := pw1.blk
    refine Seq.nil ?_
    refine Post.weak (F' := [(0, _), (1, _), (4, _), (5, _), (21, _)]) ⟨rfl, rfl, rfl, rfl, rfl, trivial⟩ ?_
    refine Post.then_ ?_
    refine Cd.seq ?_
    refine Cd.region ?_
    refine Seq.val (Runs.move rfl rfl) rfl rfl rfl ?_
    have kf2 := kf.own pw1
    refine Seq.val (Runs.assign rfl rfl) rfl rfl rfl ?_
    refine Seq.nil ?_
    refine Post.weak (F' := [(0, _), (1, _), (4, _), (5, _), (21, _)]) ⟨rfl, rfl, rfl, rfl, rfl, trivial⟩ ?_
    refine Post.then_ ?_
    refine Cd.ret ?_
    refine Post.end1 rfl rfl (.inl rfl) ?_
    unfold rest rawV
    rw [hr]
    exact ⟨rfl, kf2, Rd.good k0 (hs.drop _)⟩
theorem read_any (s : List Nat) (w : World) (hs : Byt s) : Calls Tryz.prog 84 #[.string (strOf s)] w fun e w' => ∃ g, e = .returned (.pointer (some ⟨g, 0, none⟩)) ∧ Grow w w' ∧ w.heap.size ≤ g ∧ Rd 169 w' g (some s) := by
  have bel := Below.refl w.heap.size w
  have hb : ∀ W, (Instr.build 169 #[(0, .string (strOf s))]).run Tryz.prog W = .ok (.agg #[.string (strOf s), .bool false]) W := fun W => by
    have hu := Tryz.underlying169
    go_simp
  refine Calls.start 6 Tryz.func84 rfl rfl rfl ?_
  refine Cd.seq ?_
  refine Cd.region ?_
  refine Seq.val (Runs.assign rfl rfl) rfl rfl rfl ?_
  refine Seq.nil ?_
  refine Post.weak (F' := [(0, _), (2, _)]) ⟨rfl, rfl, trivial⟩ ?_
  refine Post.then_ ?_
  refine Cd.seq ?_
  refine Cd.region ?_
  refine Seq.val (Runs.move rfl rfl) rfl rfl rfl ?_
  refine Seq.val (Runs.build rfl rfl (hb _)) rfl rfl rfl ?_
  refine Seq.box rfl rfl rfl rfl rfl ?_
  intro g5 w1 n5
  have e5 := Nat.le_trans bel.size n5.ge
  replace bel := bel.step n5.below
  have k5 := n5.blk
  refine Seq.val (Runs.assign rfl rfl) rfl rfl rfl ?_
  refine Seq.nil ?_
  refine Post.weak (F' := [(0, _), (2, _)]) ⟨rfl, rfl, trivial⟩ ?_
  refine Post.then_ ?_
  refine Cd.ret ?_
  refine Post.end1 rfl rfl (.inl rfl) ?_
  exact ⟨_, rfl, bel, e5, Rd.good k5 hs⟩
end Go.Proofs.YtnlepoplncjliaaGreatDoor

namespace Go.Proofs.YtnlepoplncjliaaGreatDoor
open Go.RowKit

theorem int_at {a b : Int} (h : a = b) : (some (Value.int .i64 a) : Option Value) = some (Value.int .i64 b) := by rw [h]
section
variable {α : Type}
theorem take_last {l : List α} {i : Nat} {x : α} (h : l[i]? = some x) : l.take (i + 1) = l.take i ++ [x] := by rw [List.take_add_one, h]; rfl
theorem drop_head {l : List α} {i : Nat} {x : α} (h : l[i]? = some x) : l.drop i = x :: l.drop (i + 1) := by
  have hi := (List.getElem?_eq_some_iff.1 h).1
  have hx := (List.getElem?_eq_some_iff.1 h).2
  rw [← hx, List.getElem_cons_drop]
end
/-- A file: its bytes, and how many are safe. -/
structure Fil where
  data : List Nat
  safe : Nat
def Fil.cs (f : Fil) : Array Value := #[.string (strOf f.data), .int .i64 (f.safe : Int)]
def Fil.ok (f : Fil) : Prop := (∀ c ∈ f.data, c < 256) ∧ f.safe ≤ f.data.length ∧ f.data.length ≤ 1048576
/-- A disk. -/
structure Dk where
  room : Int
  files : List (List Nat × Fil)
  off : Bool
  armed : Bool
  left : Int
def usedL : List (List Nat × Fil) → Nat
  | [] => 0
  | p :: r => p.2.data.length + usedL r
def Dk.used (D : Dk) : Int := (usedL D.files : Int)
def Dk.cs (D : Dk) (m : Nat) (c1 c2 : Int) : Array Value := #[.int .i64 D.room, .map (some m), .int .i64 D.used, .int .i64 c1, .int .i64 c2, .bool D.off, .bool D.armed, .int .i64 D.left]
structure Dk.ok (D : Dk) : Prop where
  room0 : 0 ≤ D.room
  room1 : D.room ≤ 16777216
  fits : D.used ≤ D.room
  left0 : 0 ≤ D.left
  left1 : D.left ≤ 4611686018427387904
  fil : ∀ p ∈ D.files, p.2.ok ∧ (∀ c ∈ p.1, c < 256) ∧ p.1 ≠ [] ∧ p.1.length ≤ 24
  most : D.files.length ≤ 200
/-- The files' blocks. -/
structure Fs (w : World) (B : Nat) (l : List (List Nat × Nat)) (F : Nat → Fil) : Prop where
  blk : ∀ p ∈ l, B ≤ p.2 ∧ Blk w p.2 91 (F p.2).cs
  nd : (l.map (·.2)).Nodup
/-- The files' blocks but one. -/
structure Fb (w : World) (B : Nat) (l : List (List Nat × Nat)) (F : Nat → Fil) (b : Nat) : Prop where
  blk : ∀ p ∈ l, B ≤ p.2 ∧ (p.2 ≠ b → Blk w p.2 91 (F p.2).cs)
  nd : (l.map (·.2)).Nodup
def fsOf (l : List (List Nat × Nat)) (F : Nat → Fil) : List (List Nat × Fil) := l.map fun p => (p.1, F p.2)
structure DkR (w : World) (B g : Nat) (D : Dk) (m : Nat) (l : List (List Nat × Nat)) (F : Nat → Fil) (c1 c2 : Int) : Prop where
  k : Blk w g 77 (D.cs m c1 c2)
  mp : Mp w m l
  hm : B ≤ m
  fs : Fs w B l F
  fl : D.files = fsOf l F
  hB : B ≤ g
  ok : D.ok
def DkAt (w : World) (B g : Nat) (D : Dk) : Prop := ∃ m l F c1 c2, DkR w B g D m l F c1 c2
theorem Blk.neT {w : World} {g g' : Nat} {T T' : TypeId} {cs cs' : Array Value} (h : Blk w g T cs) (h' : Blk w g' T' cs') (hne : T ≠ T' := by decide) : g ≠ g' := fun e => by
  have h1 : w.heap[g]? = some (.cells cs T) := h
  have h2 : w.heap[g']? = some (.cells cs' T') := h'
  rw [← e, h1] at h2
  injection h2 with h2
  injection h2 with _ h2
  exact hne h2
/-- What a disk's methods leave as it was. -/
structure Df (B : Nat) (w w' : World) : Prop where
  below : Below (min B w.heap.size) w w'
  keep : ∀ k t cs, Blk w k t cs → t ≠ 77 → t ≠ 91 → Blk w' k t cs
section
variable {B : Nat} {w w' w'' : World}
theorem Df.refl (B : Nat) (w : World) : Df B w w := ⟨Below.refl _ _, fun _ _ _ h _ _ => h⟩
theorem Df.trans (h : Df B w w') (k : Df B w' w'') : Df B w w'' := ⟨h.below.trans (k.below.mono (by have := h.below.size; omega)), fun i t cs hb h1 h2 => k.keep i t cs (h.keep i t cs hb h1 h2) h1 h2⟩
theorem Df.grow (h : Below w.heap.size w w') : Df B w w' := ⟨h.mono (Nat.min_le_right _ _), fun _ _ _ hb _ _ => hb.step h⟩
theorem Df.step (h : Df B w w') (k : Below w'.heap.size w' w'') : Df B w w'' := h.trans (Df.grow k)
theorem Df.size (h : Df B w w') : w.heap.size ≤ w'.heap.size := h.below.size
theorem Df.to (h : Df B w w') (hB : B ≤ w.heap.size) : Below B w w' := by have := h.below; rwa [Nat.min_eq_left hB] at this
theorem Df.mono {B' : Nat} (h : Df B w w') (hB : B' ≤ B) : Df B' w w' := ⟨h.below.mono (by omega), h.keep⟩
theorem Df.putX {g : Nat} {T : TypeId} {cur cs : Array Value} (h : Df B w w') (k : Blk w' g T cur) (p : Put w' w'' g T cs) (ht : (B ≤ g ∧ (T = 77 ∨ T = 91)) ∨ w.heap.size ≤ g) : Df B w w'' := by
  rcases ht with ⟨h1, h2⟩ | h1
  · exact h.trans ⟨p.below (by omega) k.lt, fun i t cs' hb h3 h4 => hb.grown p.grown (fun e => by
      have e : i = g := by injection e
      rw [e] at hb
      have hb' : w'.heap[g]? = some (.cells cs' t) := hb
      have hk' : w'.heap[g]? = some (.cells cur T) := k
      rw [hb'] at hk'
      injection hk' with hk'
      injection hk' with _ hk'
      subst hk'
      rcases h2 with h2 | h2
      · exact h3 h2
      · exact h4 h2)⟩
  · refine ⟨h.below.trans (p.below (by omega) k.lt), fun i t cs' hb h3 h4 => (h.keep i t cs' hb h3 h4).grown p.grown (fun e => ?_)⟩
    injection e with e
    have := hb.lt
    omega
theorem Df.put {B' g : Nat} {T : TypeId} {cur cs : Array Value} (h : Df B w w') (k : Blk w' g T cur) (p : Put w' w'' g T cs) (e : B' ≤ g) (ht : (B ≤ B' ∧ (T = 77 ∨ T = 91)) ∨ w.heap.size ≤ B' := by first | exact .inl ⟨by omega, .inl rfl⟩ | exact .inl ⟨by omega, .inr rfl⟩ | exact .inr (by omega)) : Df B w w'' :=
  h.putX k p (by rcases ht with ⟨h1, h2⟩ | h1; exact .inl ⟨by omega, h2⟩; exact .inr (by omega))
theorem Df.putM {m : Nat} {l : List (List Nat × Nat)} (h : Df B w w') (hm : B ≤ m) (p : PutM w' w'' m l) : Df B w w'' :=
  h.trans ⟨only_to_below (p.grown) (Nat.le_trans (Nat.min_le_left _ _) hm) (by have := p.mp.lt; have := p.size; omega), fun i t cs' hb _ _ => hb.grown p.grown (fun e => by
    have e : i = m := by injection e
    rw [e] at hb
    obtain ⟨es, clk, hm'⟩ := p.was
    have hb' : w'.heap[m]? = some (.cells cs' t) := hb
    rw [hm'] at hb'
    cases hb')⟩
theorem Blk.df {k : Nat} {t : TypeId} {cs : Array Value} (h : Blk w k t cs) (f : Df B w w') (h1 : t ≠ 77 := by decide) (h2 : t ≠ 91 := by decide) : Blk w' k t cs := f.keep k t cs h h1 h2
theorem Reads.df {B2 size n : Nat} {A : Option Addr} {xs : List Value} (h : Reads w B2 size A n xs) (f : Df B w w') (hB : B2 ≤ B) (hs : B2 ≤ w.heap.size) : Reads w' B2 size A n xs := h.below (f.below.mono (by omega))
end
section
variable {w w' : World} {B : Nat} {l : List (List Nat × Nat)} {F : Nat → Fil}
theorem Fs.step (h : Fs w B l F) (hb : Below w.heap.size w w') : Fs w' B l F := ⟨fun p hp => ⟨(h.blk p hp).1, (h.blk p hp).2.step hb⟩, h.nd⟩
theorem Fs.put {B' g : Nat} {T : TypeId} {cur cs : Array Value} (h : Fs w B l F) (k : Blk w g T cur) (p : Put w w' g T cs) (_e : B' ≤ g) (hne : T ≠ 91 := by decide) : Fs w' B l F :=
  ⟨fun q hq => ⟨(h.blk q hq).1, (h.blk q hq).2.put p (fun e => by
    have h1 : w.heap[q.2]? = some (.cells (F q.2).cs 91) := (h.blk q hq).2
    have h2 : w.heap[g]? = some (.cells cur T) := k
    rw [e, h2] at h1
    injection h1 with h1
    injection h1 with _ h1
    exact hne h1)⟩, h.nd⟩
theorem Fs.grown {row : Option Nat} (h : Fs w B l F) (hg : w.grownBy w' row) (hne : ∀ p ∈ l, row ≠ some p.2) : Fs w' B l F := ⟨fun q hq => ⟨(h.blk q hq).1, (h.blk q hq).2.grown hg (fun e => hne q hq e.symm)⟩, h.nd⟩
theorem Fb.step {b : Nat} (h : Fb w B l F b) (hb : Below w.heap.size w w') : Fb w' B l F b := ⟨fun p hp => ⟨(h.blk p hp).1, fun hne => ((h.blk p hp).2 hne).step hb⟩, h.nd⟩
theorem Fb.put {B' b g : Nat} {T : TypeId} {cur cs : Array Value} (h : Fb w B l F b) (k : Blk w g T cur) (p : Put w w' g T cs) (_e : B' ≤ g) (hne : T ≠ 91 ∨ g = b := by first | exact .inl (by decide) | exact .inr rfl) : Fb w' B l F b :=
  ⟨fun q hq => ⟨(h.blk q hq).1, fun hqb => ((h.blk q hq).2 hqb).put p (fun e => by
    rcases hne with hne | hne
    · have h1 : w.heap[q.2]? = some (.cells (F q.2).cs 91) := (h.blk q hq).2 hqb
      have h2 : w.heap[g]? = some (.cells cur T) := k
      rw [e, h2] at h1
      injection h1 with h1
      injection h1 with _ h1
      exact hne h1
    · exact hqb (e.trans hne))⟩, h.nd⟩
theorem Fs.off (h : Fs w B l F) (b : Nat) : Fb w B l F b := ⟨fun p hp => ⟨(h.blk p hp).1, fun _ => (h.blk p hp).2⟩, h.nd⟩
/-- A file's bytes turned. -/
def setF (F : Nat → Fil) (b : Nat) (f : Fil) : Nat → Fil := fun k => if k = b then f else F k
theorem Fb.on {b : Nat} {f : Fil} (h : Fb w B l F b) (k : Blk w b 91 f.cs) : Fs w B l (setF F b f) := ⟨fun p hp => ⟨(h.blk p hp).1, by
  unfold setF
  split
  · rename_i e; rw [e]; exact k
  · rename_i e; exact (h.blk p hp).2 e⟩, h.nd⟩
end
theorem DkR.step {w w' : World} {B g m : Nat} {D : Dk} {l : List (List Nat × Nat)} {F : Nat → Fil} {c1 c2 : Int} (h : DkR w B g D m l F c1 c2) (hb : Below w.heap.size w w') : DkR w' B g D m l F c1 c2 := ⟨h.k.step hb, h.mp.step hb, h.hm, h.fs.step hb, h.fl, h.hB, h.ok⟩
theorem DkR.put {w w' : World} {B B' g m g' : Nat} {D : Dk} {l : List (List Nat × Nat)} {F : Nat → Fil} {c1 c2 : Int} {T : TypeId} {cur cs : Array Value} (h : DkR w B g D m l F c1 c2) (k : Blk w g' T cur) (p : Put w w' g' T cs) (e : B' ≤ g') (h1 : T ≠ 91 := by decide) (h2 : T ≠ 77 := by decide) : DkR w' B g D m l F c1 c2 :=
  ⟨h.k.put p (fun e => by
    have h3 : w.heap[g]? = some (.cells (D.cs m c1 c2) 77) := h.k
    have h4 : w.heap[g']? = some (.cells cur T) := k
    rw [e, h4] at h3
    injection h3 with h3
    injection h3 with _ h3
    exact h2 h3), h.mp.put k p e, h.hm, h.fs.put k p e h1, h.fl, h.hB, h.ok⟩
theorem DkAt.step {w w' : World} {B g : Nat} {D : Dk} (h : DkAt w B g D) (hb : Below w.heap.size w w') : DkAt w' B g D := by
  obtain ⟨m, l, F, c1, c2, h⟩ := h
  exact ⟨m, l, F, c1, c2, h.step hb⟩
theorem DkAt.put {w w' : World} {B B' g g' : Nat} {D : Dk} {T : TypeId} {cur cs : Array Value} (h : DkAt w B g D) (k : Blk w g' T cur) (p : Put w w' g' T cs) (e : B' ≤ g') (h1 : T ≠ 91 := by decide) (h2 : T ≠ 77 := by decide) : DkAt w' B g D := by
  obtain ⟨m, l, F, c1, c2, h⟩ := h
  exact ⟨m, l, F, c1, c2, h.put k p e h1 h2⟩
theorem Df.df {B : Nat} {w w' w'' : World} (h : Df B w w') (k : Df B w' w'') : Df B w w'' := h.trans k
theorem Own.df {B B' size n : Nat} {w w' : World} {e : TypeId} {v : Value} {xs : List Value} (h : Own w B' e size v n xs) (f : Df B w w') (h1 : e ≠ 77 := by decide) (h2 : e ≠ 91 := by decide) : Own w' B' e size v n xs := by
  obtain ⟨⟨hl, h0 | ⟨g, cap, cur, rfl, hB, hg, r⟩⟩⟩ := h
  · exact ⟨⟨hl, .inl h0⟩⟩
  · exact ⟨⟨hl, .inr ⟨g, cap, cur, rfl, hB, f.keep g e cur hg h1 h2, r⟩⟩⟩
theorem Mp.app {w w' : World} {m B B' size n : Nat} {e : TypeId} {l : List (List Nat × Nat)} {v : Value} {xs : List Value} (h : Mp w m l) (o : Own w B e size v n xs) (ha : App w w' B' v) : Mp w' m l := h.grown ha.grown (fun e' => by
  rcases o.row.2 with ⟨rfl, _⟩ | ⟨g, cap, cur, rfl, hB, hg, _⟩
  · cases e'
  · injection e' with e'
    have e' : g = m := e'
    exact h.ne hg e'.symm)
theorem Blk.appNe {k n B B' size : Nat} {w w' : World} {t e : TypeId} {cs : Array Value} {v : Value} {xs : List Value} (h : Blk w k t cs) (o : Own w B e size v n xs) (ha : App w w' B' v) (hne : e ≠ t := by decide) : Blk w' k t cs := h.grown ha.grown (fun e' => own_blk_ne o.row h hne e'.symm)
theorem DkR.app {w w' : World} {B g m B2 B3 n size : Nat} {D : Dk} {l : List (List Nat × Nat)} {F : Nat → Fil} {c1 c2 : Int} {e : TypeId} {v : Value} {xs : List Value} (h : DkR w B g D m l F c1 c2) (o : Own w B2 e size v n xs) (ha : App w w' B3 v) (h1 : e ≠ 77 := by decide) (h2 : e ≠ 91 := by decide) : DkR w' B g D m l F c1 c2 :=
  ⟨h.k.appNe o ha h1, h.mp.app o ha, h.hm, ⟨fun p hp => ⟨(h.fs.blk p hp).1, (h.fs.blk p hp).2.appNe o ha h2⟩, h.fs.nd⟩, h.fl, h.hB, h.ok⟩
theorem Df.app {w w' w'' : World} {B B2 B3 n size : Nat} {e : TypeId} {v : Value} {xs : List Value} (h : Df B w w') (o : Own w' B2 e size v n xs) (ha : App w' w'' B3 v) (h0 : w.heap.size ≤ B3) : Df B w w'' := by
  refine ⟨h.below.trans (ha.below.mono (by omega)), fun i t cs hb h3 h4 => ?_⟩
  have h5 := h.keep i t cs hb h3 h4
  have h6 : w''.heap[i]? = w'.heap[i]? := ha.below.block i (by have := hb.lt; omega)
  exact h6.trans h5
theorem DkAt.app {w w' : World} {B g B2 B3 n size : Nat} {D : Dk} {e : TypeId} {v : Value} {xs : List Value} (h : DkAt w B g D) (o : Own w B2 e size v n xs) (ha : App w w' B3 v) (h1 : e ≠ 77 := by decide) (h2 : e ≠ 91 := by decide) : DkAt w' B g D := by
  obtain ⟨m, l, F, c1, c2, h⟩ := h
  exact ⟨m, l, F, c1, c2, h.app o ha h1 h2⟩
/-- A file by its name. -/
def Dk.get (D : Dk) (nm : List Nat) : Option Fil := (D.files.find? (fun p => decide (p.1 = nm))).map (·.2)
theorem get_lk (l : List (List Nat × Nat)) (F : Nat → Fil) (nm : List Nat) : ((fsOf l F).find? (fun p => decide (p.1 = nm))).map (·.2) = (lk l nm).map F := by
  unfold fsOf lk
  rw [List.find?_map]
  rw [Option.map_map, Option.map_map]
  rfl
theorem lk_mem {l : List (List Nat × Nat)} {nm : List Nat} {b : Nat} (h : lk l nm = some b) : (nm, b) ∈ l := by
  unfold lk at h
  cases hf : l.find? (fun p => decide (p.1 = nm)) with
  | none => rw [hf] at h; cases h
  | some p =>
    rw [hf] at h
    injection h with h
    have h1 := List.find?_some hf
    have h2 := List.mem_of_find?_eq_some hf
    simp only [decide_eq_true_eq] at h1
    rw [← h1, ← h]
    exact h2
/-- A file turned. -/
def Dk.set (D : Dk) (nm : List Nat) (f : Fil) : Dk := { D with files := D.files.map fun p => if p.1 = nm then (p.1, f) else p }
theorem mem_one {α β : Type} [DecidableEq α] [DecidableEq β] {l : List (α × β)} {a : α} {b : β} (hn : (l.map (·.1)).Nodup) (hd : (l.map (·.2)).Nodup) (h : (a, b) ∈ l) {p : α × β} (hp : p ∈ l) : p.1 = a ↔ p.2 = b := by
  obtain ⟨i, hi, hip⟩ := List.getElem_of_mem hp
  obtain ⟨j, hj, hjp⟩ := List.getElem_of_mem h
  have key : i = j → p = (a, b) := fun e => by subst e; rw [← hip, hjp]
  constructor
  · intro e
    have : (l.map (·.1))[i]? = (l.map (·.1))[j]? := by
      rw [List.getElem?_map, List.getElem?_map, List.getElem?_eq_getElem hi, List.getElem?_eq_getElem hj, hip, hjp]
      simp [e]
    rw [key ((List.getElem?_inj (by rw [List.length_map]; exact hi) hn).1 this)]
  · intro e
    have : (l.map (·.2))[i]? = (l.map (·.2))[j]? := by
      rw [List.getElem?_map, List.getElem?_map, List.getElem?_eq_getElem hi, List.getElem?_eq_getElem hj, hip, hjp]
      simp [e]
    rw [key ((List.getElem?_inj (by rw [List.length_map]; exact hi) hd).1 this)]
theorem fsOf_set {l : List (List Nat × Nat)} {F : Nat → Fil} {nm : List Nat} {b : Nat} (hn : (l.map (·.1)).Nodup) (hd : (l.map (·.2)).Nodup) (h : lk l nm = some b) (f : Fil) : (fsOf l F).map (fun p => if p.1 = nm then (p.1, f) else p) = fsOf l (setF F b f) := by
  unfold fsOf setF
  rw [List.map_map]
  refine List.map_congr_left fun p hp => ?_
  have := mem_one hn hd (lk_mem h) hp
  by_cases e : p.1 = nm
  · simp [e, this.1 e]
  · have e2 : p.2 ≠ b := fun e2 => e (this.2 e2)
    simp [e, e2]
theorem usedL_set {fs : List (List Nat × Fil)} {nm : List Nat} {f : Fil} (h : ∀ p ∈ fs, p.1 = nm → p.2.data.length = f.data.length) : usedL (fs.map fun p => if p.1 = nm then (p.1, f) else p) = usedL fs := by
  induction fs with
  | nil => rfl
  | cons p r ih =>
    rw [List.map_cons, usedL, usedL, ih (fun q hq => h q (List.mem_cons_of_mem _ hq))]
    by_cases e : p.1 = nm
    · rw [if_pos e, h p List.mem_cons_self e]
    · rw [if_neg e]
theorem get_mem {D : Dk} {nm : List Nat} {f : Fil} (h : D.get nm = some f) : (nm, f) ∈ D.files := by
  unfold Dk.get at h
  cases hf : D.files.find? (fun p => decide (p.1 = nm)) with
  | none => rw [hf] at h; cases h
  | some p =>
    rw [hf] at h
    injection h with h
    have h1 := List.find?_some hf
    have h2 := List.mem_of_find?_eq_some hf
    simp only [decide_eq_true_eq] at h1
    rw [← h1, ← h]
    exact h2
end Go.Proofs.YtnlepoplncjliaaGreatDoor

namespace Go.Proofs.YtnlepoplncjliaaGreatDoor
open Go.RowKit

/-- Texts, as cells. -/
def Ts (l : List (List Nat)) : List Value := l.map fun s => Value.string (strOf s)
theorem get_Ts (l : List (List Nat)) (k : Nat) : (Ts l)[k]? = l[k]?.map fun s => Value.string (strOf s) := by simp [Ts]
theorem Ts_len (l : List (List Nat)) : (Ts l).length = l.length := by simp [Ts]
theorem Ts_append (a b : List (List Nat)) : Ts (a ++ b) = Ts a ++ Ts b := by simp [Ts]
theorem Own.of_blk {w : World} {B g n size : Nat} {e : TypeId} {cs : Array Value} (k : Blk w g e cs) (hB : B ≤ g) (hn : cs.size = n * size) (hm : n ≤ maxLen) : Own w B e size (.slice (some ⟨g, 0, none⟩) n n) n cs.toList :=
  ⟨⟨by simpa using hn, .inr ⟨g, n, cs, rfl, hB, k, Nat.le_refl _, hm, hn, by rw [List.take_of_length_le (by simp [hn])]⟩⟩⟩
def nameOk (s : List Nat) : Bool := decide (s ≠ []) && decide (s.length ≤ 24)
/-- One operation more. -/
def Dk.tick (D : Dk) : Dk := if D.off then D else if D.armed then (if D.left = 0 then { D with off := true } else { D with left := D.left - 1 }) else D
def Dk.beginE (D : Dk) (names : List (List Nat)) : Int := if D.tick.off then 6 else if names.all nameOk then 0 else 1
theorem tick_files (D : Dk) : D.tick.files = D.files := by unfold Dk.tick; split <;> (try split) <;> (try split) <;> rfl
theorem tick_room (D : Dk) : D.tick.room = D.room := by unfold Dk.tick; split <;> (try split) <;> (try split) <;> rfl
set_option maxHeartbeats 1000000 in
theorem begin_any (B g0 m : Nat) (D : Dk) (l : List (List Nat × Nat)) (F : Nat → Fil) (c1 c2 : Int) (names : List (List Nat)) (v : Value) (Bv n : Nat) (w : World) (h : DkR w B g0 D m l F c1 c2) (own : Own w Bv 9 1 v n (Ts names)) (hsm : ∀ s ∈ names, ∀ c ∈ s, c < 256) (hl : ∀ s ∈ names, s.length ≤ 1000000000) (hn : n ≤ 1000000) :
    Calls Tryz.prog 42 #[.pointer (some ⟨g0, 0, none⟩), v] w fun e w' => e = .returned (.int .i64 (D.beginE names)) ∧ (∃ c3, DkR w' B g0 D.tick m l F c1 c3) ∧ Df B w w' := by
  obtain ⟨k0, mp, hm, fs, hfl, e0, ok⟩ := h
  obtain ⟨us, hus⟩ : ∃ us, us = D.used := ⟨_, rfl⟩
  obtain ⟨room, files, off, armed, left⟩ := D
  have hlen : names.length = n := by have := own.row.1; rw [Ts_len] at this; omega
  have hleft := ok.left0
  have hleft1 := ok.left1
  simp only at hleft hleft1 hfl
  unfold Dk.cs at k0
  rw [← hus] at k0
  simp only at k0
  have df := Df.refl B w
  obtain ⟨A, c, rfl, -⟩ := own.reads
  refine Calls.start 55 Tryz.func42 rfl rfl rfl ?_
  refine Cd.seq ?_
  refine Cd.region ?_
  refine Seq.val (Runs.assign rfl rfl) rfl rfl rfl ?_
  refine Seq.nil ?_
  refine Post.weak (F' := [(0, _), (1, _), (4, _)]) ⟨rfl, rfl, rfl, trivial⟩ ?_
  refine Post.then_ ?_
  refine Cd.seq ?_
  refine Cd.block ?_
  refine Cd.seq ?_
  refine Cd.region ?_
  refine Seq.val (Runs.move rfl rfl) rfl rfl rfl ?_
  refine Seq.val (Runs.eqlP rfl rfl rfl Tryz.underlying26) rfl rfl rfl ?_
  refine Seq.val (Runs.assign rfl rfl) rfl rfl rfl ?_
  refine Seq.nil ?_
  refine Post.weak (F' := [(0, _), (1, _), (4, _), (7, _)]) ⟨rfl, rfl, rfl, rfl, trivial⟩ ?_
  refine Post.then_ ?_
  refine Cd.condF rfl rfl ?_
  refine Cd.seq ?_
  refine Cd.region ?_
  refine Seq.val (Runs.move rfl rfl) rfl rfl rfl ?_
  refine Seq.val (Runs.nilCheck rfl rfl) rfl rfl rfl ?_
  refine Seq.val (Runs.fieldB 5 rfl rfl Tryz.underlying77 rfl (by kernel_rfl)) rfl rfl rfl ?_
  refine Seq.val (Runs.loadB rfl rfl Tryz.underlying4 rfl k0 rfl) rfl rfl rfl ?_
  refine Seq.val (Runs.assign rfl rfl) rfl rfl rfl ?_
  refine Seq.nil ?_
  refine Post.weak (F' := [(0, _), (1, _), (4, _), (7, _), (10, _)]) ⟨rfl, rfl, rfl, rfl, rfl, trivial⟩ ?_
  refine Post.then_ ?_
  have hbad : (names.all nameOk = false) → ∃ s ∈ names, nameOk s = false := fun hb => by
    have := List.all_eq_false.1 hb
    simpa using this
  refine Cd.cond rfl (fun h => ?_) (fun h => ?_)
  · obtain rfl : off = true := h
    refine Cd.seq ?_
    refine Cd.region ?_
    refine Seq.val (Runs.assign rfl rfl) rfl rfl rfl ?_
    refine Seq.nil ?_
    refine Post.weak (F' := [(0, _), (1, _), (4, _), (7, _), (10, _)]) ⟨rfl, rfl, rfl, rfl, rfl, trivial⟩ ?_
    refine Post.then_ ?_
    refine Cd.ret ?_
    refine Post.block_ret ?_
    refine Post.then_ret ?_
    refine Post.end1 rfl rfl (.inl rfl) ?_
    exact ⟨rfl, ⟨c2, by rw [hus] at k0; exact k0, mp, hm, fs, hfl, e0, ok⟩, df⟩
  obtain rfl : off = false := h
  refine Cd.skip ?_
  refine Post.block_normal ?_
  refine Post.then_ ?_
  refine Cd.seq ?_
  refine Cd.region ?_
  refine Seq.val (Runs.move rfl rfl) rfl rfl rfl ?_
  refine Seq.val (Runs.nilCheck rfl rfl) rfl rfl rfl ?_
  refine Seq.val (Runs.fieldB 4 rfl rfl Tryz.underlying77 rfl (by kernel_rfl)) rfl rfl rfl ?_
  refine Seq.val (Runs.loadB rfl rfl Tryz.underlying3 rfl k0 rfl) rfl rfl rfl ?_
  refine Seq.val (Runs.addW rfl rfl rfl rfl) rfl rfl rfl ?_
  refine Seq.val (Runs.nilCheck rfl rfl) rfl rfl rfl ?_
  refine Seq.val (Runs.fieldB 4 rfl rfl Tryz.underlying77 rfl (by kernel_rfl)) rfl rfl rfl ?_
  refine Seq.store1 rfl rfl rfl (by kernel_rfl) rfl rfl k0 rfl rfl rfl ?_
  intro w1 pw1
  replace df := df.put k0 pw1 e0
  replace mp := mp.put k0 pw1 e0
  replace fs := fs.put k0 pw1 e0
  replace own := own.put k0 pw1 e0
  replace k0 := pw1.blk
  refine Seq.nil ?_
  refine Post.weak (F' := [(0, _), (1, _), (4, _), (7, _), (10, _)]) ⟨rfl, rfl, rfl, rfl, rfl, trivial⟩ ?_
  refine Post.then_ ?_
  replace k0 : Blk _ g0 77 #[.int .i64 room, .map (some m), .int .i64 us, .int .i64 c1, .int .i64 (IntKind.i64.wrap (c2 + 1)), .bool false, .bool armed, .int .i64 left] := k0
  obtain ⟨c3, hc3⟩ : ∃ c3, c3 = IntKind.i64.wrap (c2 + 1) := ⟨_, rfl⟩
  rw [← hc3] at k0
  refine Cd.seqJ (σ := Dk) (fun _ => [(0, .pointer (some ⟨g0, 0, none⟩)), (1, .slice A n c)]) (fun D' wr => D' = (Dk.mk room files false armed left).tick ∧ D'.off = false ∧ D'.ok ∧ Df B w wr ∧ Blk wr g0 77 (D'.cs m c1 c3) ∧ Mp wr m l ∧ Fs wr B l F ∧ Own wr Bv 9 1 (.slice A n c) n (Ts names)) ?_ ?_
  · skip
    refine Cd.seq ?_
    refine Cd.region ?_
    refine Seq.val (Runs.move rfl rfl) rfl rfl rfl ?_
    refine Seq.val (Runs.nilCheck rfl rfl) rfl rfl rfl ?_
    refine Seq.val (Runs.fieldB 6 rfl rfl Tryz.underlying77 rfl (by kernel_rfl)) rfl rfl rfl ?_
    refine Seq.val (Runs.loadB rfl rfl Tryz.underlying4 rfl k0 rfl) rfl rfl rfl ?_
    refine Seq.nil ?_
    refine Post.weak (F' := [(0, _), (1, _), (4, _), (7, _), (10, _), (25, _)]) ⟨rfl, rfl, rfl, rfl, rfl, rfl, trivial⟩ ?_
    refine Post.then_ ?_
    refine Cd.cond rfl (fun h => ?_) (fun h => ?_)
    · obtain rfl : armed = true := h
      refine Cd.seq ?_
      refine Cd.seq ?_
      refine Cd.region ?_
      refine Seq.val (Runs.move rfl rfl) rfl rfl rfl ?_
      refine Seq.val (Runs.nilCheck rfl rfl) rfl rfl rfl ?_
      refine Seq.val (Runs.fieldB 7 rfl rfl Tryz.underlying77 rfl (by kernel_rfl)) rfl rfl rfl ?_
      refine Seq.val (Runs.loadB rfl rfl Tryz.underlying3 rfl k0 rfl) rfl rfl rfl ?_
      refine Seq.val (Runs.eqlI rfl rfl rfl) rfl rfl rfl ?_
      refine Seq.nil ?_
      refine Post.weak (F' := [(0, _), (1, _), (4, _), (7, _), (10, _), (25, _), (30, _)]) ⟨rfl, rfl, rfl, rfl, rfl, rfl, rfl, trivial⟩ ?_
      refine Post.then_ ?_
      refine Cd.cond rfl (fun h => ?_) (fun h => ?_)
      · have h : left = 0 := by simpa using h
        refine Cd.seq ?_
        refine Cd.region ?_
        refine Seq.val (Runs.move rfl rfl) rfl rfl rfl ?_
        refine Seq.val (Runs.nilCheck rfl rfl) rfl rfl rfl ?_
        refine Seq.val (Runs.fieldB 5 rfl rfl Tryz.underlying77 rfl (by kernel_rfl)) rfl rfl rfl ?_
        refine Seq.store1 rfl rfl rfl (by kernel_rfl) rfl rfl k0 rfl rfl rfl ?_
        intro w2 pw2
        replace df := df.put k0 pw2 e0
        replace mp := mp.put k0 pw2 e0
        replace fs := fs.put k0 pw2 e0
        replace own := own.put k0 pw2 e0
        replace k0 := pw2.blk
        refine Seq.nil ?_
        refine Post.weak (F' := [(0, _), (1, _), (4, _), (7, _), (10, _), (25, _), (30, _)]) ⟨rfl, rfl, rfl, rfl, rfl, rfl, rfl, trivial⟩ ?_
        refine Post.then_ ?_
        refine Cd.seq ?_
        refine Cd.region ?_
        refine Seq.val (Runs.assign rfl rfl) rfl rfl rfl ?_
        refine Seq.nil ?_
        refine Post.weak (F' := [(0, _), (1, _), (4, _), (7, _), (10, _), (25, _), (30, _)]) ⟨rfl, rfl, rfl, rfl, rfl, rfl, rfl, trivial⟩ ?_
        refine Post.then_ ?_
        refine Cd.ret ?_
        refine Post.then_ret ?_
        refine Post.then_ret ?_
        replace k0 : Blk _ g0 77 #[.int .i64 room, .map (some m), .int .i64 us, .int .i64 c1, .int .i64 c3, .bool true, .bool true, .int .i64 left] := k0
        refine Post.end1 rfl rfl (.inl rfl) ?_
        have ht : (Dk.mk room files false true left).tick = Dk.mk room files true true left := by unfold Dk.tick; rw [if_neg (by simp), if_pos rfl, if_pos h]
        refine ⟨by unfold Dk.beginE; rw [ht]; rfl, ?_, df⟩
        rw [ht]
        exact ⟨c3, by unfold Dk.cs; rw [show (Dk.mk room files true true left).used = us from hus.symm]; exact k0, mp, hm, fs, hfl, e0, ⟨ok.room0, ok.room1, ok.fits, ok.left0, ok.left1, ok.fil, ok.most⟩⟩
      · have h : left ≠ 0 := by simpa using h
        refine Cd.skip ?_
        refine Post.then_ ?_
        refine Cd.region ?_
        refine Seq.val (Runs.move rfl rfl) rfl rfl rfl ?_
        refine Seq.val (Runs.nilCheck rfl rfl) rfl rfl rfl ?_
        refine Seq.val (Runs.fieldB 7 rfl rfl Tryz.underlying77 rfl (by kernel_rfl)) rfl rfl rfl ?_
        refine Seq.val (Runs.loadB rfl rfl Tryz.underlying3 rfl k0 rfl) rfl rfl rfl ?_
        refine Seq.val (Runs.subI rfl rfl rfl (by omega) (by omega)) rfl rfl rfl ?_
        refine Seq.val (Runs.nilCheck rfl rfl) rfl rfl rfl ?_
        refine Seq.val (Runs.fieldB 7 rfl rfl Tryz.underlying77 rfl (by kernel_rfl)) rfl rfl rfl ?_
        refine Seq.store1 rfl rfl rfl (by kernel_rfl) rfl rfl k0 rfl rfl rfl ?_
        intro w2 pw2
        replace df := df.put k0 pw2 e0
        replace mp := mp.put k0 pw2 e0
        replace fs := fs.put k0 pw2 e0
        replace own := own.put k0 pw2 e0
        replace k0 := pw2.blk
        refine Seq.nil ?_
        refine Post.weak (F' := [(0, _), (1, _), (4, _), (7, _), (10, _), (25, _), (30, _)]) ⟨rfl, rfl, rfl, rfl, rfl, rfl, rfl, trivial⟩ ?_
        replace k0 : Blk _ g0 77 #[.int .i64 room, .map (some m), .int .i64 us, .int .i64 c1, .int .i64 c3, .bool false, .bool true, .int .i64 (left - 1)] := k0
        have ht : (Dk.mk room files false true left).tick = Dk.mk room files false true (left - 1) := by unfold Dk.tick; rw [if_neg (by simp), if_pos rfl, if_neg h]
        exact Post.join (Dk.mk room files false true (left - 1)) ⟨rfl, rfl, trivial⟩ ⟨ht.symm, rfl, ⟨ok.room0, ok.room1, ok.fits, show 0 ≤ left - 1 by omega, show left - 1 ≤ 4611686018427387904 by omega, ok.fil, ok.most⟩, df, (by unfold Dk.cs; rw [show (Dk.mk room files false true (left - 1)).used = us from hus.symm]; exact k0), mp, fs, own⟩
    · obtain rfl : armed = false := h
      refine Cd.skip ?_
      exact Post.join (Dk.mk room files false false left) ⟨rfl, rfl, trivial⟩ ⟨rfl, rfl, ok, df, (by rw [hus] at k0; exact k0), mp, fs, own⟩
  clear df k0 mp fs own
  rintro D' wj ⟨hD, hoff, okD, df, k0, mp, fs, own⟩
  obtain ⟨A', c', hv, hrd⟩ := own.reads
  injection hv with e1 _ e2
  subst e1 e2
  have bel := Below.refl wj.heap.size wj
  refine Cd.seq ?_
  refine Cd.seq ?_
  refine Cd.region ?_
  refine Seq.val (Runs.move rfl rfl) rfl rfl rfl ?_
  refine Seq.val (Runs.len rfl rfl Tryz.underlying22) rfl rfl rfl ?_
  refine Seq.val (Runs.move rfl rfl) rfl rfl rfl ?_
  refine Seq.nil ?_
  refine Post.weak (F' := [(0, _), (1, _), (41, _), (42, _), (43, _)]) ⟨rfl, rfl, rfl, rfl, rfl, trivial⟩ ?_
  refine Post.then_ ?_
  refine Cd.block ?_
  have hfin : ∀ w', Below wj.heap.size wj w' → (∃ c3, DkR w' B g0 D' m l F c1 c3) ∧ Df B w w' := fun w' hb => ⟨⟨c3, k0.step hb, mp.step hb, hm, fs.step hb, by rw [hD, tick_files]; exact hfl, e0, okD⟩, df.step hb⟩
  rw [← hD]
  clear df mp fs k0
  unfold Dk.beginE
  rw [← hD, hoff]
  simp only [Bool.false_eq_true, if_false]
  refine Cd.loop (σ := Nat) (fun k => [(41, .slice A n c), (42, .int .i64 (n : Int)), (43, .int .i64 (k : Int))]) (fun k wr => k ≤ n ∧ (∀ s ∈ names.take k, nameOk s = true) ∧ Below wj.heap.size wj wr) (fun k => n - k) 0 ⟨Nat.zero_le _, by simp, bel⟩ ⟨rfl, rfl, rfl, trivial⟩ ?_
  clear bel
  rintro k wr ⟨hk, hok, bel⟩
  refine Cd.seq ?_
  refine Cd.region ?_
  refine Seq.val (Runs.lss rfl rfl rfl) rfl rfl rfl ?_
  refine Seq.nil ?_
  refine Post.weak (F' := [(41, _), (42, _), (43, _), (44, _)]) ⟨rfl, rfl, rfl, rfl, trivial⟩ ?_
  refine Post.then_ ?_
  refine Cd.seq ?_
  refine Cd.condD rfl (fun hc => ?_) (fun hc => ?_)
  · obtain ⟨s, hs⟩ : ∃ s, names[k]? = some s := ⟨_, List.getElem?_eq_getElem (show k < names.length by omega)⟩
    have hms := List.mem_of_getElem? hs
    have hsl := hl s hms
    obtain ⟨ad, rfl, hbl, hcl⟩ := hrd.2 (by omega)
    have hcd := (bel.cell (p := ad.add k) (by rw [block_of_add]; exact hbl)).trans (hcl k (.string (strOf s)) (by rw [get_Ts, hs]; rfl))
    refine Cd.skip ?_
    refine Post.then_ ?_
    refine Cd.seq ?_
    refine Cd.block ?_
    refine Cd.seq ?_
    refine Cd.region ?_
    refine Seq.val (Runs.index1 rfl rfl rfl Tryz.underlying22 (by kernel_rfl) (j := k) rfl (by omega)) rfl rfl rfl ?_
    refine Seq.val (Runs.load1 rfl rfl Tryz.underlying9 rfl hcd) rfl rfl rfl ?_
    refine Seq.val (Runs.assign rfl rfl) rfl rfl rfl ?_
    refine Seq.nil ?_
    refine Post.weak (F' := [(6, _), (41, _), (42, _), (43, _), (44, _)]) ⟨rfl, rfl, rfl, rfl, rfl, trivial⟩ ?_
    refine Post.then_ ?_
    refine Cd.seq ?_
    refine Cd.region ?_
    refine Seq.val (Runs.move rfl rfl) rfl rfl rfl ?_
    refine Seq.val (Runs.eqlS rfl rfl rfl) rfl rfl rfl ?_
    refine Seq.val (Runs.move rfl rfl) rfl rfl rfl ?_
    refine SeqC.start ?_
    refine SeqC.open rfl rfl rfl rfl rfl rfl rfl (fun hcx => Runs.move rfl rfl) ?_
    refine SeqC.next rfl rfl rfl rfl rfl rfl rfl (fun hcx => Runs.lenS rfl rfl Tryz.underlying9) ?_
    refine SeqC.next rfl rfl rfl rfl rfl rfl rfl (fun hcx => Runs.gtr rfl rfl rfl) ?_
    refine SeqC.or rfl rfl rfl rfl rfl rfl rfl ?_
    refine Seq.nil ?_
    refine Post.weak (F' := [(6, _), (41, _), (42, _), (43, _), (44, _), (53, _)]) ⟨rfl, rfl, rfl, rfl, rfl, rfl, trivial⟩ ?_
    refine Post.then_ ?_
    have hno : nameOk s = !(((strOf s).toList == (strOf []).toList) || decide ((24 : Int) < (s.length : Int))) := by
      rw [strOf_beq (hsm s hms) (by simp)]
      unfold nameOk
      rw [Bool.not_or]
      congr 1
      · by_cases e : s = [] <;> simp [e]
      · by_cases e : s.length ≤ 24
        · rw [decide_eq_true e, decide_eq_false (by omega)]; rfl
        · rw [decide_eq_false e, decide_eq_true (by omega)]; rfl
    refine Cd.cond rfl (fun h => ?_) (fun h => ?_)
    · replace h : ((strOf s).toList == (strOf []).toList || decide ((24 : Int) < ((strOf s).size : Int))) = true := h
      rw [strOf_size] at h
      refine Cd.seq ?_
      refine Cd.region ?_
      refine Seq.val (Runs.assign rfl rfl) rfl rfl rfl ?_
      refine Seq.nil ?_
      refine Post.weak (F' := [(4, _), (6, _), (41, _), (42, _), (43, _), (44, _), (53, _)]) ⟨rfl, rfl, rfl, rfl, rfl, rfl, rfl, trivial⟩ ?_
      refine Post.then_ ?_
      refine Cd.ret ?_
      refine Post.block_ret ?_
      refine Post.then_ret ?_
      refine Post.round_ret ?_
      refine Post.block_ret ?_
      refine Post.then_ret ?_
      refine Post.end1 rfl rfl (.inl rfl) ?_
      have hall : names.all nameOk = false := by
        rw [List.all_eq_false]
        exact ⟨s, hms, by rw [hno]; simp only [Bool.not_eq_true, Bool.not_eq_false']; exact h⟩
      rw [hall]
      exact ⟨rfl, hfin _ bel⟩
    · replace h : ((strOf s).toList == (strOf []).toList || decide ((24 : Int) < ((strOf s).size : Int))) = false := h
      rw [strOf_size] at h
      refine Cd.skip ?_
      refine Post.block_normal ?_
      refine Post.then_ ?_
      refine Cd.region ?_
      refine Seq.val (Runs.addI rfl rfl rfl (by omega) (by omega)) rfl rfl rfl ?_
      refine Seq.val (Runs.move rfl rfl) rfl rfl rfl ?_
      refine Seq.nil ?_
      refine Post.weak (F' := [(6, _), (41, _), (42, _), (43, _), (44, _), (53, _)]) ⟨rfl, rfl, rfl, rfl, rfl, rfl, trivial⟩ ?_
      refine Post.round (k + 1) ⟨rfl, rfl, int_at (by omega), trivial⟩ ⟨by omega, fun y hy => ?_, bel⟩ (by omega)
      rw [take_last hs] at hy
      rcases List.mem_append.1 hy with hy | hy
      · exact hok y hy
      · simp at hy
        subst hy
        rw [hno]
        simp only [Bool.not_eq_true']
        exact h
  · have hall : names.all nameOk = true := by
      rw [List.all_eq_true]
      intro s hs
      rw [List.take_of_length_le (by omega)] at hok
      exact hok s hs
    rw [hall]
    refine Cd.exit ?_
    refine Post.then_exit ?_
    refine Post.round_exit ?_
    refine Post.block_exit ?_
    refine Post.then_ ?_
    refine Cd.seq ?_
    refine Cd.region ?_
    refine Seq.val (Runs.assign rfl rfl) rfl rfl rfl ?_
    refine Seq.nil ?_
    refine Post.weak (F' := [(4, _), (41, _), (42, _), (43, _), (44, _)]) ⟨rfl, rfl, rfl, rfl, rfl, trivial⟩ ?_
    refine Post.then_ ?_
    refine Cd.ret ?_
    refine Post.end1 rfl rfl (.inl rfl) ?_
    exact ⟨rfl, hfin _ bel⟩
end Go.Proofs.YtnlepoplncjliaaGreatDoor

namespace Go.Proofs.YtnlepoplncjliaaGreatDoor
open Go.RowKit

theorem zero_string : zeroIs Tryz.prog 9 = some (some (.string { data := #[] })) := by kernel_rfl
theorem zero_pfile : zeroIs Tryz.prog 88 = some (some (.pointer none)) := by kernel_rfl
section
variable {P : Program} {ops : Array Oper} {Q : Exit → Act → World → Prop} {rest : List Oper} {E : Operand → Option Value} {F : List (Nat × Value)} {o : Oper} {w : World} {x y z : Operand} {t k e m n d : Nat} {l : List (List Nat × Nat)} {nm : List Nat}
theorem Runs.lookup2 (ho : o.op = .lookup t x y true) (hx : E x = some (.map (some m))) (hy : E y = some (.string (strOf nm))) (h : Mp w m l) (hn : ∀ c ∈ nm, c < 256) (ht : P.underlying t = some (.map k e)) (hk : P.underlying k = some .string) (hz : zeroIs P e = some (some (.pointer none))) :
    Runs P E o w (.tuple #[lkV l nm, .bool (lk l nm).isSome]) w := fun ρ hρ => by
  unfold execOp
  simp only [ho]; rw [hρ _ _ hx, hρ _ _ hy]
  simp only [Sem.run_bind, h.look ht hk hz hn, Result.andThen_ok, Sem.run_pure, if_true]
theorem Runs.lookup1 (ho : o.op = .lookup t x y false) (hx : E x = some (.map (some m))) (hy : E y = some (.string (strOf nm))) (h : Mp w m l) (hn : ∀ c ∈ nm, c < 256) (ht : P.underlying t = some (.map k e)) (hk : P.underlying k = some .string) (hz : zeroIs P e = some (some (.pointer none))) :
    Runs P E o w (lkV l nm) w := fun ρ hρ => by
  unfold execOp
  simp only [ho]; rw [hρ _ _ hx, hρ _ _ hy]
  simp only [Sem.run_bind, h.look ht hk hz hn, Result.andThen_ok, Sem.run_pure, Bool.false_eq_true, if_false]
theorem Runs.lenM (ho : o.op = .call { callee := .builtin .len, args := #[x], argTypes := #[t] }) (hx : E x = some (.map (some m))) (h : Mp w m l) (ht : P.underlying t = some (.map k e)) : Runs P E o w (.int .i64 (l.length : Int)) w := fun ρ hρ => by
  obtain ⟨es, clk, h1, h2, h3⟩ := h.ex
  have hl : es.size = l.length := by have := congrArg List.length h3; simpa using this
  unfold execOp
  simp only [ho, resolve, invoke, builtin, Sem.run_bind, Sem.run_pure, Result.andThen_ok, List.map_toArray, List.map_cons, List.map_nil, hρ _ _ hx]
  simp [Builtin.len_, run_underlying ht, Result.andThen_ok, MapKept.run_getObj_map h1, hl, goInt]
theorem Seq.mapUpd {b : Nat} (ho : o.op = .mapUpdate t x y z) (hx : evF F x = some (.map (some m))) (hy : evF F y = some (.string (strOf nm))) (hz : evF F z = some (.pointer (some ⟨b, 0, none⟩))) (h : Mp w m l) (hn : ∀ c ∈ nm, c < 256) (ht : P.underlying t = some (.map k e)) (hk : P.underlying k = some .string)
    (hg : o.guard = none) (hd : o.dst = none) (hr : ∀ w', PutM w w' m (upd l nm b) → Seq P ops Q rest n F w') : Seq P ops Q (o :: rest) n F w := by
  obtain ⟨w', h1, h2⟩ := Mp.update (b := b) h ht hk hn
  refine Seq.unit (w' := w') (fun ρ hρ => ?_) hg hd (hr w' h2)
  unfold execOp
  simp only [ho]; rw [hρ _ _ hx, hρ _ _ hy, hρ _ _ hz]
  simp only [Sem.run_bind, h1, Result.andThen_ok, Sem.run_pure]
end
theorem ones_Ts (l : List (List Nat)) : ∀ u ∈ Ts l, u.oneCell' = true := fun u hu => by
  unfold Ts at hu
  obtain ⟨z, -, rfl⟩ := List.mem_map.1 hu
  rfl
/-- What is wrong with an operation on a file that has to be there. -/
def Dk.thereE (D : Dk) (names : List (List Nat)) (nm : List Nat) : Int := if D.beginE names ≠ 0 then D.beginE names else if (D.get nm).isSome then 0 else 7
theorem get_some {D : Dk} {l : List (List Nat × Nat)} {F : Nat → Fil} (h : D.files = fsOf l F) (nm : List Nat) : D.get nm = (lk l nm).map F := by unfold Dk.get; rw [h]; exact get_lk l F nm
set_option maxHeartbeats 1000000 in
theorem there_any (B g0 m : Nat) (D : Dk) (l : List (List Nat × Nat)) (F : Nat → Fil) (c1 c2 : Int) (nm : List Nat) (more : List (List Nat)) (v : Value) (Bv n : Nat) (w : World) (h : DkR w B g0 D m l F c1 c2) (own : Own w Bv 9 1 v n (Ts more)) (hsm : ∀ s ∈ nm :: more, ∀ c ∈ s, c < 256) (hl : ∀ s ∈ nm :: more, s.length ≤ 1000000000) (hn : n ≤ 100000) :
    Calls Tryz.prog 48 #[.pointer (some ⟨g0, 0, none⟩), .string (strOf nm), v] w fun e w' => e = .returned (.tuple #[if D.thereE (nm :: more) nm = 0 then lkV l nm else .pointer none, .int .i64 (D.thereE (nm :: more) nm)]) ∧ (∃ c3, DkR w' B g0 D.tick m l F c1 c3) ∧ Df B w w' := by
  have hlen : more.length = n := by have := own.row.1; rw [Ts_len] at this; omega
  obtain ⟨A, c, rfl, -⟩ := own.reads
  have df := Df.refl B w
  have dk := h
  refine Calls.start 32 Tryz.func48 rfl rfl rfl ?_
  refine Cd.seq ?_
  refine Cd.region ?_
  refine Seq.val (Runs.assign rfl rfl) rfl rfl rfl ?_
  refine Seq.val (Runs.assign rfl rfl) rfl rfl rfl ?_
  refine Seq.nil ?_
  refine Post.weak (F' := [(0, _), (1, _), (2, _), (6, _), (7, _)]) ⟨rfl, rfl, rfl, rfl, rfl, trivial⟩ ?_
  refine Post.then_ ?_
  refine Cd.seq ?_
  refine Cd.seq ?_
  refine Cd.region ?_
  refine Seq.val (Runs.move rfl rfl) rfl rfl rfl ?_
  refine Seq.val (Runs.move rfl rfl) rfl rfl rfl ?_
  refine Seq.slice (vs := [_]) (s := 1) rfl rfl rfl Tryz.underlying22 (by kernel_rfl) (zero_string) (by omega) (by omega) ⟨rfl, trivial⟩ rfl rfl rfl ?_
  intro g13 w1 n13
  replace df := df.step n13.below
  replace dk := dk.step n13.below
  replace own := own.step n13.below
  have k13 := n13.blk
  refine Seq.val (Runs.move rfl rfl) rfl rfl rfl ?_
  have own1 : Own w1 w.heap.size 9 1 (.slice (some ⟨g13, 0, none⟩) 1 1) 1 [.string (strOf nm)] := Own.of_blk k13 n13.ge rfl (by decide)
  have hrd := own.reads
  obtain ⟨A', c', hv, hrd⟩ := hrd
  injection hv with e1 _ e2
  subst e1 e2
  refine Seq.append rfl rfl rfl Tryz.underlying22 (by kernel_rfl) zero_string rfl (by decide) (b := 16) (by kernel_rfl) own1 hrd (ones_Ts _) df.size (by simp only [maxLen]; omega) (by omega) rfl rfl rfl ?_
  intro v2 w2 own2 ha
  replace own2 : Own w2 w.heap.size 9 1 v2 (1 + n) (Ts (nm :: more)) := own2
  have dk' := dk.app own1 ha
  have df' := df.app own1 ha (Nat.le_refl _)
  clear dk df own own1 k13 hrd ha
  have dk := dk'
  have df := df'
  clear dk' df'
  refine Seq.call (Enters.func rfl rfl rfl (run_enter Tryz.func42 (by kernel_rfl) rfl)) rfl rfl rfl (begin_any B g0 m D l F c1 c2 (nm :: more) v2 _ _ _ dk own2 hsm hl (by omega)) ?_
  clear dk
  rintro e w2 ⟨rfl, ⟨c3, dk⟩, fw2⟩
  refine ⟨_, rfl, ?_⟩
  replace df := df.df fw2
  refine Seq.val (Runs.assign rfl rfl) rfl rfl rfl ?_
  refine Seq.nil ?_
  refine Post.weak (F' := [(0, _), (1, _), (2, _), (6, _), (7, _), (8, _)]) ⟨rfl, rfl, rfl, rfl, rfl, rfl, trivial⟩ ?_
  refine Post.then_ ?_
  refine Cd.seq ?_
  refine Cd.region ?_
  refine Seq.val (Runs.move rfl rfl) rfl rfl rfl ?_
  refine Seq.val (Runs.neqI rfl rfl rfl) rfl rfl rfl ?_
  refine Seq.nil ?_
  refine Post.weak (F' := [(0, _), (1, _), (2, _), (6, _), (7, _), (8, _), (18, _)]) ⟨rfl, rfl, rfl, rfl, rfl, rfl, rfl, trivial⟩ ?_
  refine Post.then_ ?_
  refine Cd.cond rfl (fun h => ?_) (fun h => ?_)
  · have h : D.beginE (nm :: more) ≠ 0 := by simpa using h
    have ht : D.thereE (nm :: more) nm = D.beginE (nm :: more) := by unfold Dk.thereE; rw [if_pos h]
    refine Cd.seq ?_
    refine Cd.region ?_
    refine Seq.val (Runs.move rfl rfl) rfl rfl rfl ?_
    refine Seq.val (Runs.assign rfl rfl) rfl rfl rfl ?_
    refine Seq.val (Runs.assign rfl rfl) rfl rfl rfl ?_
    refine Seq.nil ?_
    refine Post.weak (F' := [(0, _), (1, _), (2, _), (6, _), (7, _), (8, _), (18, _)]) ⟨rfl, rfl, rfl, rfl, rfl, rfl, rfl, trivial⟩ ?_
    refine Post.then_ ?_
    refine Cd.ret ?_
    refine Post.then_ret ?_
    refine Post.end2 rfl rfl rfl (.inl rfl) ?_
    rw [ht, if_neg h]
    exact ⟨rfl, ⟨c3, dk⟩, df⟩
  have h : D.beginE (nm :: more) = 0 := by simpa using h
  have hfl := dk.fl
  rw [tick_files] at hfl
  have hget := get_some hfl nm
  have ht : D.thereE (nm :: more) nm = if (lk l nm).isSome then 0 else 7 := by unfold Dk.thereE; rw [if_neg (by omega), hget, Option.isSome_map]
  have k0 := dk.k
  refine Cd.skip ?_
  refine Post.then_ ?_
  refine Cd.seq ?_
  refine Cd.region ?_
  refine Seq.val (Runs.move rfl rfl) rfl rfl rfl ?_
  refine Seq.val (Runs.nilCheck rfl rfl) rfl rfl rfl ?_
  refine Seq.val (Runs.fieldB 1 rfl rfl Tryz.underlying77 rfl (by kernel_rfl)) rfl rfl rfl ?_
  refine Seq.val (Runs.loadB rfl rfl Tryz.underlying75 rfl k0 rfl) rfl rfl rfl ?_
  refine Seq.val (Runs.move rfl rfl) rfl rfl rfl ?_
  refine Seq.val (Runs.lookup2 rfl rfl rfl dk.mp (hsm nm (List.mem_cons_self)) Tryz.underlying75 Tryz.underlying9 zero_pfile) rfl rfl rfl ?_
  refine Seq.val (Runs.move rfl rfl) rfl rfl rfl ?_
  refine Seq.val (Runs.extract rfl rfl rfl) rfl rfl rfl ?_
  refine Seq.val (Runs.extract rfl rfl rfl) rfl rfl rfl ?_
  refine Seq.val (Runs.assign rfl rfl) rfl rfl rfl ?_
  refine Seq.val (Runs.assign rfl rfl) rfl rfl rfl ?_
  refine Seq.nil ?_
  refine Post.weak (F' := [(0, _), (1, _), (2, _), (6, _), (7, _), (8, _), (9, _), (10, _), (18, _)]) ⟨rfl, rfl, rfl, rfl, rfl, rfl, rfl, rfl, rfl, trivial⟩ ?_
  refine Post.then_ ?_
  refine Cd.seq ?_
  refine Cd.seq ?_
  refine Cd.region ?_
  refine Seq.val (Runs.move rfl rfl) rfl rfl rfl ?_
  refine Seq.val (Runs.not rfl rfl) rfl rfl rfl ?_
  refine Seq.nil ?_
  refine Post.weak (F' := [(0, _), (1, _), (2, _), (6, _), (7, _), (8, _), (9, _), (10, _), (18, _), (30, _)]) ⟨rfl, rfl, rfl, rfl, rfl, rfl, rfl, rfl, rfl, rfl, trivial⟩ ?_
  refine Post.then_ ?_
  refine Cd.cond rfl (fun h => ?_) (fun h => ?_)
  · have h : lk l nm = none := by
      cases e : lk l nm with
      | none => rfl
      | some b => exfalso; revert h; show (!(lk l nm).isSome) = true → False; rw [e]; simp
    rw [h] at ht
    have ht : D.thereE (nm :: more) nm = 7 := ht
    refine Cd.seq ?_
    refine Cd.region ?_
    refine Seq.val (Runs.assign rfl rfl) rfl rfl rfl ?_
    refine Seq.val (Runs.assign rfl rfl) rfl rfl rfl ?_
    refine Seq.nil ?_
    refine Post.weak (F' := [(0, _), (1, _), (2, _), (6, _), (7, _), (8, _), (9, _), (10, _), (18, _), (30, _)]) ⟨rfl, rfl, rfl, rfl, rfl, rfl, rfl, rfl, rfl, rfl, trivial⟩ ?_
    refine Post.then_ ?_
    refine Cd.ret ?_
    refine Post.then_ret ?_
    refine Post.end2 rfl rfl rfl (.inl rfl) ?_
    rw [ht]
    exact ⟨rfl, ⟨c3, dk⟩, df⟩
  have h : (lk l nm).isSome = true := by
    have h' : (!(lk l nm).isSome) = false := h
    simpa using h'
  rw [h, if_pos rfl] at ht
  refine Cd.skip ?_
  refine Post.then_ ?_
  refine Cd.seq ?_
  refine Cd.region ?_
  refine Seq.val (Runs.move rfl rfl) rfl rfl rfl ?_
  refine Seq.val (Runs.assign rfl rfl) rfl rfl rfl ?_
  refine Seq.val (Runs.assign rfl rfl) rfl rfl rfl ?_
  refine Seq.nil ?_
  refine Post.weak (F' := [(0, _), (1, _), (2, _), (6, _), (7, _), (8, _), (9, _), (10, _), (18, _), (30, _)]) ⟨rfl, rfl, rfl, rfl, rfl, rfl, rfl, rfl, rfl, rfl, trivial⟩ ?_
  refine Post.then_ ?_
  refine Cd.ret ?_
  refine Post.end2 rfl rfl rfl (.inl rfl) ?_
  rw [ht, if_pos rfl]
  exact ⟨rfl, ⟨c3, dk⟩, df⟩
theorem thereE_zero {D : Dk} {names : List (List Nat)} {nm : List Nat} (h : D.thereE names nm = 0) : D.beginE names = 0 ∧ ∃ f, D.get nm = some f := by
  unfold Dk.thereE at h
  split at h
  · rename_i h1; exact absurd h h1
  · rename_i h1
    split at h
    · rename_i h2
      refine ⟨by omega, ?_⟩
      exact Option.isSome_iff_exists.1 h2
    · cases h
/-- Behind Sync. -/
def Dk.sync (D : Dk) (nm : List Nat) : Dk := if D.thereE [nm] nm = 0 then (match D.get nm with | some f => D.tick.set nm { f with safe := f.data.length } | none => D.tick) else D.tick
theorem ok_tick {D : Dk} (h : D.tick.ok) {fs : List (List Nat × Fil)} (h1 : usedL fs = usedL D.tick.files) (h2 : ∀ p ∈ fs, p.2.ok ∧ (∀ c ∈ p.1, c < 256) ∧ p.1 ≠ [] ∧ p.1.length ≤ 24) (h3 : fs.length = D.tick.files.length) : ({ D.tick with files := fs } : Dk).ok :=
  ⟨h.room0, h.room1, (by have := h.fits; unfold Dk.used at this ⊢; rw [h1]; exact this), h.left0, h.left1, h2, (by rw [h3]; exact h.most)⟩
theorem sync_any (B g0 : Nat) (D : Dk) (nm : List Nat) (w : World) (h : DkAt w B g0 D) (hsm : ∀ c ∈ nm, c < 256) (hl : nm.length ≤ 1000000000) :
    Calls Tryz.prog 27 #[.pointer (some ⟨g0, 0, none⟩), .string (strOf nm)] w fun e w' => e = .returned (.int .i64 (D.thereE [nm] nm)) ∧ DkAt w' B g0 (D.sync nm) ∧ Df B w w' := by
  obtain ⟨m, l, F, c1, c2, dk⟩ := h
  have df := Df.refl B w
  refine Calls.start 24 Tryz.func27 rfl rfl rfl ?_
  refine Cd.seq ?_
  refine Cd.region ?_
  refine Seq.val (Runs.assign rfl rfl) rfl rfl rfl ?_
  refine Seq.nil ?_
  refine Post.weak (F' := [(0, _), (1, _), (4, _)]) ⟨rfl, rfl, rfl, trivial⟩ ?_
  refine Post.then_ ?_
  refine Cd.seq ?_
  refine Cd.region ?_
  refine Seq.val (Runs.move rfl rfl) rfl rfl rfl ?_
  refine Seq.val (Runs.move rfl rfl) rfl rfl rfl ?_
  refine Seq.call (Enters.func rfl rfl rfl (run_enter Tryz.func48 (by kernel_rfl) rfl)) rfl rfl rfl (there_any B g0 m D l F c1 c2 nm [] (.slice none 0 0) 0 0 _ dk (Own.nil _ _ _ _) (by simpa using hsm) (by simpa using hl) (by omega)) ?_
  clear dk
  rintro e w1 ⟨rfl, ⟨c3, dk⟩, fw1⟩
  refine ⟨_, rfl, ?_⟩
  replace df := df.df fw1
  refine Seq.val (Runs.move rfl rfl) rfl rfl rfl ?_
  refine Seq.val (Runs.extract rfl rfl rfl) rfl rfl rfl ?_
  refine Seq.val (Runs.extract rfl rfl rfl) rfl rfl rfl ?_
  refine Seq.val (Runs.assign rfl rfl) rfl rfl rfl ?_
  refine Seq.val (Runs.assign rfl rfl) rfl rfl rfl ?_
  refine Seq.nil ?_
  refine Post.weak (F' := [(0, _), (1, _), (4, _), (5, _), (6, _)]) ⟨rfl, rfl, rfl, rfl, rfl, trivial⟩ ?_
  refine Post.then_ ?_
  refine Cd.seq ?_
  refine Cd.seq ?_
  refine Cd.region ?_
  refine Seq.val (Runs.move rfl rfl) rfl rfl rfl ?_
  refine Seq.val (Runs.eqlI rfl rfl rfl) rfl rfl rfl ?_
  refine Seq.nil ?_
  refine Post.weak (F' := [(0, _), (1, _), (4, _), (5, _), (6, _), (14, _)]) ⟨rfl, rfl, rfl, rfl, rfl, rfl, trivial⟩ ?_
  refine Post.then_ ?_
  refine Cd.cond rfl (fun h => ?_) (fun h => ?_)
  · have h : D.thereE [nm] nm = 0 := by simpa using h
    obtain ⟨hb0, f, hf⟩ := thereE_zero h
    have hS : D.sync nm = D.tick.set nm { f with safe := f.data.length } := by unfold Dk.sync; rw [if_pos h, hf]
    have hfl := dk.fl
    have hfl0 := hfl
    rw [tick_files] at hfl0
    have hg := get_some hfl0 nm
    rw [hf] at hg
    obtain ⟨g5, hg5, rfl⟩ := Option.map_eq_some_iff.1 hg.symm
    rw [h, if_pos rfl]
    have hv : lkV l nm = .pointer (some ⟨g5, 0, none⟩) := by unfold lkV; rw [hg5]; rfl
    rw [hv, hS]
    have k0 := dk.k
    have mp := dk.mp
    have fx := dk.fs.off g5
    obtain ⟨e5, k5⟩ : B ≤ g5 ∧ Blk _ g5 91 (F g5).cs := dk.fs.blk _ (lk_mem hg5)
    have hne := k0.neT k5
    have hfo := (dk.ok.fil (nm, F g5) (by rw [tick_files]; exact get_mem hf)).1
    have ok0 := dk.ok
    have hm := dk.hm
    have e0 := dk.hB
    have hnd := dk.fs.nd
    clear dk
    refine Cd.region ?_
    refine Seq.val (Runs.move rfl rfl) rfl rfl rfl ?_
    refine Seq.val (Runs.move rfl rfl) rfl rfl rfl ?_
    refine Seq.val (Runs.nilCheck rfl rfl) rfl rfl rfl ?_
    refine Seq.val (Runs.fieldB 0 rfl rfl Tryz.underlying91 rfl (by kernel_rfl)) rfl rfl rfl ?_
    refine Seq.val (Runs.loadB rfl rfl Tryz.underlying9 rfl k5 rfl) rfl rfl rfl ?_
    refine Seq.val (Runs.lenS rfl rfl Tryz.underlying9) rfl rfl rfl ?_
    refine Seq.val (Runs.nilCheck rfl rfl) rfl rfl rfl ?_
    refine Seq.val (Runs.fieldB 1 rfl rfl Tryz.underlying91 rfl (by kernel_rfl)) rfl rfl rfl ?_
    refine Seq.store1 rfl rfl rfl (by kernel_rfl) rfl rfl k5 rfl rfl rfl ?_
    intro w2 pw2
    replace df := df.put k5 pw2 e5
    replace mp := mp.put k5 pw2 e5
    replace fx := fx.put k5 pw2 e5
    replace k0 := k0.put pw2 (by omega)
    replace k5 := pw2.blk
    refine Seq.nil ?_
    refine Post.weak (F' := [(0, _), (1, _), (4, _), (5, _), (6, _), (14, _)]) ⟨rfl, rfl, rfl, rfl, rfl, rfl, trivial⟩ ?_
    refine Post.then_ ?_
    refine Cd.seq ?_
    refine Cd.region ?_
    refine Seq.val (Runs.move rfl rfl) rfl rfl rfl ?_
    refine Seq.val (Runs.assign rfl rfl) rfl rfl rfl ?_
    refine Seq.nil ?_
    refine Post.weak (F' := [(0, _), (1, _), (4, _), (5, _), (6, _), (14, _)]) ⟨rfl, rfl, rfl, rfl, rfl, rfl, trivial⟩ ?_
    refine Post.then_ ?_
    refine Cd.ret ?_
    replace k5 : Blk _ g5 91 #[.string (strOf (F g5).data), .int .i64 ((strOf (F g5).data).size : Int)] := k5
    rw [strOf_size] at k5
    refine Post.end1 rfl rfl (.inl rfl) ?_
    have hnn := mp.nodup
    have hsz : ∀ p ∈ D.files, p.1 = nm → p.2.data.length = (F g5).data.length := fun p hp e => by
      rw [hfl0] at hp
      obtain ⟨q, hq, rfl⟩ := List.mem_map.1 hp
      rw [(mem_one hnn hnd (lk_mem hg5) hq).1 e]
    have hfs : (D.tick.files.map fun p => if p.1 = nm then (p.1, ({ data := (F g5).data, safe := (F g5).data.length } : Fil)) else p) = fsOf l (setF F g5 { data := (F g5).data, safe := (F g5).data.length }) := by rw [hfl]; exact fsOf_set hnn hnd hg5 _
    have hus : usedL (D.tick.files.map fun p => if p.1 = nm then (p.1, ({ data := (F g5).data, safe := (F g5).data.length } : Fil)) else p) = usedL D.tick.files := usedL_set (by rw [tick_files]; exact hsz)
    refine ⟨rfl, ⟨m, l, setF F g5 { data := (F g5).data, safe := (F g5).data.length }, c1, c3, ?_, mp, hm, fx.on k5, hfs, e0, ok_tick ok0 hus ?_ (by rw [List.length_map])⟩, df⟩
    · unfold Dk.cs at k0 ⊢
      have hu2 : (D.tick.set nm { data := (F g5).data, safe := (F g5).data.length }).used = D.tick.used := congrArg Int.ofNat hus
      rw [hu2]
      exact k0
    · intro p hp
      obtain ⟨q, hq, rfl⟩ := List.mem_map.1 hp
      have h1 := ok0.fil q hq
      by_cases e : q.1 = nm
      · rw [if_pos e]
        exact ⟨⟨hfo.1, Nat.le_refl _, hfo.2.2⟩, h1.2⟩
      · rw [if_neg e]; exact h1
  · have h : D.thereE [nm] nm ≠ 0 := by simpa using h
    have hS : D.sync nm = D.tick := by unfold Dk.sync; rw [if_neg h]
    rw [hS]
    refine Cd.skip ?_
    refine Post.then_ ?_
    refine Cd.seq ?_
    refine Cd.region ?_
    refine Seq.val (Runs.move rfl rfl) rfl rfl rfl ?_
    refine Seq.val (Runs.assign rfl rfl) rfl rfl rfl ?_
    refine Seq.nil ?_
    refine Post.weak (F' := [(0, _), (1, _), (4, _), (5, _), (6, _), (14, _)]) ⟨rfl, rfl, rfl, rfl, rfl, rfl, trivial⟩ ?_
    refine Post.then_ ?_
    refine Cd.ret ?_
    refine Post.end1 rfl rfl (.inl rfl) ?_
    exact ⟨rfl, ⟨m, l, F, c1, c3, dk⟩, df⟩
end Go.Proofs.YtnlepoplncjliaaGreatDoor

namespace Go.Proofs.YtnlepoplncjliaaGreatDoor
open Go.RowKit

/-- A file's bytes, or why there are none. -/
def Dk.readE (D : Dk) (nm : List Nat) : Int := if D.off then 6 else if (D.get nm).isSome then 0 else 7
def Dk.readS (D : Dk) (nm : List Nat) : List Nat := if D.off then [] else ((D.get nm).map (·.data)).getD []
theorem read_d_any (B g0 : Nat) (D : Dk) (nm : List Nat) (w : World) (h : DkAt w B g0 D) (hsm : ∀ c ∈ nm, c < 256) :
    Calls Tryz.prog 21 #[.pointer (some ⟨g0, 0, none⟩), .string (strOf nm)] w fun e w' => e = .returned (.tuple #[.string (strOf (D.readS nm)), .int .i64 (D.readE nm)]) ∧ Grow w w' := by
  obtain ⟨m, l, F, c1, c2, dk⟩ := h
  have k0 := dk.k
  have bel := Below.refl w.heap.size w
  have hg := get_some dk.fl nm
  refine Calls.start 31 Tryz.func21 rfl rfl rfl ?_
  refine Cd.seq ?_
  refine Cd.region ?_
  refine Seq.val (Runs.assign rfl rfl) rfl rfl rfl ?_
  refine Seq.val (Runs.assign rfl rfl) rfl rfl rfl ?_
  refine Seq.nil ?_
  refine Post.weak (F' := [(0, _), (1, _), (4, _), (5, _)]) ⟨rfl, rfl, rfl, rfl, trivial⟩ ?_
  refine Post.then_ ?_
  refine Cd.seq ?_
  refine Cd.block ?_
  refine Cd.seq ?_
  refine Cd.region ?_
  refine Seq.val (Runs.move rfl rfl) rfl rfl rfl ?_
  refine Seq.val (Runs.eqlP rfl rfl rfl Tryz.underlying26) rfl rfl rfl ?_
  refine Seq.val (Runs.assign rfl rfl) rfl rfl rfl ?_
  refine Seq.nil ?_
  refine Post.weak (F' := [(0, _), (1, _), (4, _), (5, _), (8, _)]) ⟨rfl, rfl, rfl, rfl, rfl, trivial⟩ ?_
  refine Post.then_ ?_
  refine Cd.condF rfl rfl ?_
  refine Cd.seq ?_
  refine Cd.region ?_
  refine Seq.val (Runs.move rfl rfl) rfl rfl rfl ?_
  refine Seq.val (Runs.nilCheck rfl rfl) rfl rfl rfl ?_
  refine Seq.val (Runs.fieldB 5 rfl rfl Tryz.underlying77 rfl (by kernel_rfl)) rfl rfl rfl ?_
  refine Seq.val (Runs.loadB rfl rfl Tryz.underlying4 rfl k0 rfl) rfl rfl rfl ?_
  refine Seq.val (Runs.assign rfl rfl) rfl rfl rfl ?_
  refine Seq.nil ?_
  refine Post.weak (F' := [(0, _), (1, _), (4, _), (5, _), (8, _), (11, _)]) ⟨rfl, rfl, rfl, rfl, rfl, rfl, trivial⟩ ?_
  refine Post.then_ ?_
  refine Cd.cond rfl (fun h => ?_) (fun h => ?_)
  · have h : D.off = true := h
    refine Cd.seq ?_
    refine Cd.region ?_
    refine Seq.val (Runs.assign rfl rfl) rfl rfl rfl ?_
    refine Seq.val (Runs.assign rfl rfl) rfl rfl rfl ?_
    refine Seq.nil ?_
    refine Post.weak (F' := [(0, _), (1, _), (4, _), (5, _), (8, _), (11, _)]) ⟨rfl, rfl, rfl, rfl, rfl, rfl, trivial⟩ ?_
    refine Post.then_ ?_
    refine Cd.ret ?_
    refine Post.block_ret ?_
    refine Post.then_ret ?_
    refine Post.end2 rfl rfl rfl (.inl rfl) ?_
    unfold Dk.readS Dk.readE
    rw [h]
    exact ⟨rfl, bel⟩
  have h : D.off = false := h
  unfold Dk.readS Dk.readE
  rw [h, hg]
  simp only [Bool.false_eq_true, if_false]
  refine Cd.skip ?_
  refine Post.block_normal ?_
  refine Post.then_ ?_
  refine Cd.seq ?_
  refine Cd.region ?_
  refine Seq.val (Runs.move rfl rfl) rfl rfl rfl ?_
  refine Seq.val (Runs.nilCheck rfl rfl) rfl rfl rfl ?_
  refine Seq.val (Runs.fieldB 1 rfl rfl Tryz.underlying77 rfl (by kernel_rfl)) rfl rfl rfl ?_
  refine Seq.val (Runs.loadB rfl rfl Tryz.underlying75 rfl k0 rfl) rfl rfl rfl ?_
  refine Seq.val (Runs.move rfl rfl) rfl rfl rfl ?_
  refine Seq.val (Runs.lookup2 rfl rfl rfl dk.mp hsm Tryz.underlying75 Tryz.underlying9 zero_pfile) rfl rfl rfl ?_
  refine Seq.val (Runs.move rfl rfl) rfl rfl rfl ?_
  refine Seq.val (Runs.extract rfl rfl rfl) rfl rfl rfl ?_
  refine Seq.val (Runs.extract rfl rfl rfl) rfl rfl rfl ?_
  refine Seq.val (Runs.assign rfl rfl) rfl rfl rfl ?_
  refine Seq.val (Runs.assign rfl rfl) rfl rfl rfl ?_
  refine Seq.nil ?_
  refine Post.weak (F' := [(0, _), (1, _), (4, _), (5, _), (6, _), (7, _), (8, _), (11, _)]) ⟨rfl, rfl, rfl, rfl, rfl, rfl, rfl, rfl, trivial⟩ ?_
  refine Post.then_ ?_
  refine Cd.seq ?_
  refine Cd.seq ?_
  refine Cd.region ?_
  refine Seq.val (Runs.move rfl rfl) rfl rfl rfl ?_
  refine Seq.val (Runs.not rfl rfl) rfl rfl rfl ?_
  refine Seq.nil ?_
  refine Post.weak (F' := [(0, _), (1, _), (4, _), (5, _), (6, _), (7, _), (8, _), (11, _), (26, _)]) ⟨rfl, rfl, rfl, rfl, rfl, rfl, rfl, rfl, rfl, trivial⟩ ?_
  refine Post.then_ ?_
  refine Cd.cond rfl (fun h => ?_) (fun h => ?_)
  · have h : lk l nm = none := by
      cases e : lk l nm with
      | none => rfl
      | some b => exfalso; revert h; show (!(lk l nm).isSome) = true → False; rw [e]; simp
    rw [h]
    refine Cd.seq ?_
    refine Cd.region ?_
    refine Seq.val (Runs.assign rfl rfl) rfl rfl rfl ?_
    refine Seq.val (Runs.assign rfl rfl) rfl rfl rfl ?_
    refine Seq.nil ?_
    refine Post.weak (F' := [(0, _), (1, _), (4, _), (5, _), (6, _), (7, _), (8, _), (11, _), (26, _)]) ⟨rfl, rfl, rfl, rfl, rfl, rfl, rfl, rfl, rfl, trivial⟩ ?_
    refine Post.then_ ?_
    refine Cd.ret ?_
    refine Post.then_ret ?_
    refine Post.end2 rfl rfl rfl (.inl rfl) ?_
    exact ⟨rfl, bel⟩
  have h : (lk l nm).isSome = true := by
    have h' : (!(lk l nm).isSome) = false := h
    simpa using h'
  obtain ⟨g6, hg6⟩ := Option.isSome_iff_exists.1 h
  have hv : lkV l nm = .pointer (some ⟨g6, 0, none⟩) := by unfold lkV; rw [hg6]; rfl
  rw [hv, hg6]
  obtain ⟨e6, k6⟩ : B ≤ g6 ∧ Blk _ g6 91 (F g6).cs := dk.fs.blk _ (lk_mem hg6)
  refine Cd.skip ?_
  refine Post.then_ ?_
  refine Cd.seq ?_
  refine Cd.region ?_
  refine Seq.val (Runs.move rfl rfl) rfl rfl rfl ?_
  refine Seq.val (Runs.nilCheck rfl rfl) rfl rfl rfl ?_
  refine Seq.val (Runs.fieldB 0 rfl rfl Tryz.underlying91 rfl (by kernel_rfl)) rfl rfl rfl ?_
  refine Seq.val (Runs.loadB rfl rfl Tryz.underlying9 rfl k6 rfl) rfl rfl rfl ?_
  refine Seq.val (Runs.assign rfl rfl) rfl rfl rfl ?_
  refine Seq.val (Runs.assign rfl rfl) rfl rfl rfl ?_
  refine Seq.nil ?_
  refine Post.weak (F' := [(0, _), (1, _), (4, _), (5, _), (6, _), (7, _), (8, _), (11, _), (26, _)]) ⟨rfl, rfl, rfl, rfl, rfl, rfl, rfl, rfl, rfl, trivial⟩ ?_
  refine Post.then_ ?_
  refine Cd.ret ?_
  refine Post.end2 rfl rfl rfl (.inl rfl) ?_
  exact ⟨rfl, bel⟩
theorem free_any (B g0 : Nat) (D : Dk) (w : World) (h : DkAt w B g0 D) :
    Calls Tryz.prog 14 #[.pointer (some ⟨g0, 0, none⟩)] w fun e w' => e = .returned (.int .i64 (D.room - D.used)) ∧ Grow w w' := by
  obtain ⟨m, l, F, c1, c2, dk⟩ := h
  have k0 := dk.k
  have bel := Below.refl w.heap.size w
  have h0 := dk.ok.room0
  have h1 := dk.ok.room1
  have h2 := dk.ok.fits
  have h3 : 0 ≤ D.used := Int.natCast_nonneg _
  refine Calls.start 14 Tryz.func14 rfl rfl rfl ?_
  refine Cd.seq ?_
  refine Cd.region ?_
  refine Seq.val (Runs.assign rfl rfl) rfl rfl rfl ?_
  refine Seq.nil ?_
  refine Post.weak (F' := [(0, _), (2, _)]) ⟨rfl, rfl, trivial⟩ ?_
  refine Post.then_ ?_
  refine Cd.seq ?_
  refine Cd.seq ?_
  refine Cd.region ?_
  refine Seq.val (Runs.move rfl rfl) rfl rfl rfl ?_
  refine Seq.val (Runs.eqlP rfl rfl rfl Tryz.underlying26) rfl rfl rfl ?_
  refine Seq.nil ?_
  refine Post.weak (F' := [(0, _), (2, _), (4, _)]) ⟨rfl, rfl, rfl, trivial⟩ ?_
  refine Post.then_ ?_
  refine Cd.condF rfl rfl ?_
  refine Cd.skip ?_
  refine Post.then_ ?_
  refine Cd.seq ?_
  refine Cd.draw 9 (by kernel_rfl) [] (.inl rfl) rfl Grow Grow.refl (fun _ _ _ => Grow.trans) ?_
  intro w1 hw1 zw1
  replace bel := bel.step hw1
  replace k0 := k0.step hw1
  have zbel := bel.size
  have zlt := k0.lt
  refine Dr.val Grow.refl rfl (fun w hG => Runs.move rfl rfl) rfl ?_
  refine Dr.val Grow.refl rfl (fun w hG => Runs.nilCheck rfl rfl) rfl ?_
  refine Dr.val Grow.refl rfl (fun w hG => Runs.fieldB 0 rfl rfl Tryz.underlying77 rfl (by kernel_rfl)) rfl ?_
  refine Dr.val Grow.refl rfl (fun w hG => Runs.loadB rfl rfl Tryz.underlying3 rfl (k0.step hG) rfl) rfl ?_
  refine Dr.val Grow.refl rfl (fun w hG => Runs.move rfl rfl) rfl ?_
  refine Dr.val Grow.refl rfl (fun w hG => Runs.nilCheck rfl rfl) rfl ?_
  refine Dr.val Grow.refl rfl (fun w hG => Runs.fieldB 2 rfl rfl Tryz.underlying77 rfl (by kernel_rfl)) rfl ?_
  refine Dr.val Grow.refl rfl (fun w hG => Runs.loadB rfl rfl Tryz.underlying3 rfl (k0.step hG) rfl) rfl ?_
  refine Dr.val Grow.refl rfl (fun w hG => Runs.subI rfl rfl rfl (by omega) (by omega)) rfl ?_
  refine Dr.nil ?_
  refine FinX.done (F' := [(0, _), (2, _), (4, _), (13, _)]) rfl ⟨rfl, rfl, rfl, rfl, trivial⟩ ?_
  intro w2 hw2 fw2
  replace bel := bel.step hw2
  replace k0 := k0.step hw2
  refine Seq.val (Runs.assign rfl rfl) rfl rfl rfl ?_
  refine Seq.nil ?_
  refine Post.weak (F' := [(0, _), (2, _), (4, _)]) ⟨rfl, rfl, rfl, trivial⟩ ?_
  refine Post.then_ ?_
  refine Cd.ret ?_
  refine Post.end1 rfl rfl (.inl rfl) ?_
  exact ⟨rfl, bel⟩
theorem on_any (B g0 : Nat) (D : Dk) (w : World) (h : DkAt w B g0 D) :
    Calls Tryz.prog 36 #[.pointer (some ⟨g0, 0, none⟩)] w fun e w' => e = .returned (.bool (!D.off)) ∧ Grow w w' := by
  obtain ⟨m, l, F, c1, c2, dk⟩ := h
  have k0 := dk.k
  have bel := Below.refl w.heap.size w
  refine Calls.start 12 Tryz.func36 rfl rfl rfl ?_
  refine Cd.seq ?_
  refine Cd.region ?_
  refine Seq.val (Runs.assign rfl rfl) rfl rfl rfl ?_
  refine Seq.nil ?_
  refine Post.weak (F' := [(0, _), (2, _)]) ⟨rfl, rfl, trivial⟩ ?_
  refine Post.then_ ?_
  refine Cd.seq ?_
  refine Cd.region ?_
  refine Seq.val (Runs.move rfl rfl) rfl rfl rfl ?_
  refine Seq.val (Runs.neqP rfl rfl rfl Tryz.underlying26) rfl rfl rfl ?_
  refine Seq.val (Runs.move rfl rfl) rfl rfl rfl ?_
  refine SeqC.start ?_
  refine SeqC.open rfl rfl rfl rfl rfl rfl rfl (fun hcx => Runs.move rfl rfl) ?_
  refine SeqC.next rfl rfl rfl rfl rfl rfl rfl (fun hcx => Runs.nilCheck rfl rfl) ?_
  refine SeqC.next rfl rfl rfl rfl rfl rfl rfl (fun hcx => Runs.fieldB 5 rfl rfl Tryz.underlying77 rfl (by kernel_rfl)) ?_
  refine SeqC.next rfl rfl rfl rfl rfl rfl rfl (fun hcx => Runs.loadB rfl rfl Tryz.underlying4 rfl k0 rfl) ?_
  refine SeqC.next rfl rfl rfl rfl rfl rfl rfl (fun hcx => Runs.not rfl rfl) ?_
  refine SeqC.and rfl rfl rfl rfl rfl rfl rfl ?_
  refine Seq.val (Runs.assign rfl rfl) rfl rfl rfl ?_
  refine Seq.nil ?_
  refine Post.weak (F' := [(0, _), (2, _)]) ⟨rfl, rfl, trivial⟩ ?_
  refine Post.then_ ?_
  refine Cd.ret ?_
  refine Post.end1 rfl rfl (.inl rfl) ?_
  exact ⟨rfl, bel⟩
theorem Mp.made (w : World) : Mp (w.alloc (.map #[] 0)) w.heap.size [] := ⟨⟨#[], 0, heap_alloc_new w _, MapKept.stamped_empty 0, rfl⟩, by simp⟩
theorem Runs.makeMap {P : Program} {E : Operand → Option Value} {o : Oper} {w : World} {t : TypeId} (ho : o.op = .makeMap t none) : Runs P E o w (.map (some w.heap.size)) (w.alloc (.map #[] 0)) := fun ρ hρ => by
  unfold execOp
  simp only [ho, Option.map_none, Sem.run_bind, run_makeMap_plain, Result.andThen_ok, Sem.run_pure]
/-- A new disk. -/
def Dk.new (room : Int) : Dk := ⟨room, [], false, false, 0⟩
theorem run_build_disk (a : Int) (m : Nat) (w : World) : (Instr.build 77 #[(0, .int .i64 a), (1, .map (some m))]).run Tryz.prog w = .ok (.agg #[.int .i64 a, .map (some m), .int .i64 0, .int .i64 0, .int .i64 0, .bool false, .bool false, .int .i64 0]) w := by
  have hu := Tryz.underlying77
  go_simp
theorem new_any (room : Int) (w : World) (h0 : 0 ≤ room) (h1 : room ≤ 16777216) :
    Calls Tryz.prog 12 #[.int .i64 room] w fun e w' => ∃ g, e = .returned (.pointer (some ⟨g, 0, none⟩)) ∧ DkAt w' w.heap.size g (Dk.new room) ∧ Grow w w' := by
  have bel := Below.refl w.heap.size w
  refine Calls.start 13 Tryz.func12 rfl rfl rfl ?_
  refine Cd.seq ?_
  refine Cd.region ?_
  refine Seq.val (Runs.assign rfl rfl) rfl rfl rfl ?_
  refine Seq.nil ?_
  refine Post.weak (F' := [(0, _), (2, _)]) ⟨rfl, rfl, trivial⟩ ?_
  refine Post.then_ ?_
  refine Cd.seq ?_
  refine Cd.seq ?_
  refine Cd.region ?_
  refine Seq.val (Runs.move rfl rfl) rfl rfl rfl ?_
  refine Seq.val (Runs.lss rfl rfl rfl) rfl rfl rfl ?_
  refine Seq.val (Runs.move rfl rfl) rfl rfl rfl ?_
  refine SeqC.start ?_
  refine SeqC.open rfl rfl rfl rfl rfl rfl rfl (fun hcx => Runs.move rfl rfl) ?_
  refine SeqC.next rfl rfl rfl rfl rfl rfl rfl (fun hcx => Runs.gtr rfl rfl rfl) ?_
  refine SeqC.or rfl rfl rfl rfl rfl rfl rfl ?_
  refine Seq.nil ?_
  refine Post.weak (F' := [(0, _), (2, _), (8, _)]) ⟨rfl, rfl, rfl, trivial⟩ ?_
  refine Post.then_ ?_
  refine Cd.condF rfl (by simp; omega) ?_
  refine Cd.skip ?_
  refine Post.then_ ?_
  refine Cd.seq ?_
  refine Cd.region ?_
  refine Seq.val (Runs.move rfl rfl) rfl rfl rfl ?_
  refine Seq.val (Runs.makeMap rfl) rfl rfl rfl ?_
  obtain ⟨m, hmm⟩ : ∃ m, m = w.heap.size := ⟨_, rfl⟩
  obtain ⟨wa, hwa⟩ : ∃ wa, wa = w.alloc (.map #[] 0) := ⟨_, rfl⟩
  have mp : Mp wa m [] := by rw [hwa, hmm]; exact Mp.made w
  have bel2 : Below w.heap.size w wa := by rw [hwa]; exact bel.alloc (Nat.le_refl _) _
  rw [← hwa]
  clear bel
  have bel := bel2
  clear bel2
  refine Seq.val (Runs.build rfl (show evP _ _ = some [(0, .int .i64 room), (1, .map (some m))] by rw [hmm]; rfl) (run_build_disk _ _ _)) rfl rfl rfl ?_
  refine Seq.box rfl rfl rfl rfl rfl ?_
  intro g12 w1 n12
  have e12 := Nat.le_trans bel.size n12.ge
  replace bel := bel.step n12.below
  replace mp := mp.step n12.below
  have k12 := n12.blk
  refine Seq.val (Runs.assign rfl rfl) rfl rfl rfl ?_
  refine Seq.nil ?_
  refine Post.weak (F' := [(0, _), (2, _), (8, _)]) ⟨rfl, rfl, rfl, trivial⟩ ?_
  refine Post.then_ ?_
  refine Cd.ret ?_
  refine Post.end1 rfl rfl (.inl rfl) ?_
  exact ⟨g12, rfl, ⟨m, [], fun _ => ⟨[], 0⟩, 0, 0, k12, mp, hmm ▸ Nat.le_refl _, ⟨by simp, by simp⟩, rfl, e12, ⟨h0, h1, h0, Int.le_refl _, (show (0 : Int) ≤ 4611686018427387904 by omega), by simp [Dk.new], by simp [Dk.new]⟩⟩, bel⟩
theorem arm_any (B g0 : Nat) (D : Dk) (n : Int) (w : World) (h : DkAt w B g0 D) (hn : 0 ≤ n) (hn1 : n ≤ 4611686018427387904) :
    Calls Tryz.prog 26 #[.pointer (some ⟨g0, 0, none⟩), .int .i64 n] w fun e w' => e = .returned (.tuple #[]) ∧ DkAt w' B g0 { D with armed := true, left := n } ∧ Df B w w' := by
  obtain ⟨m, l, F, c1, c2, dk⟩ := h
  have k0 := dk.k
  have e0 := dk.hB
  have mp := dk.mp
  have fs := dk.fs
  have df := Df.refl B w
  have hm : max n 0 = n := by omega
  refine Calls.start 14 Tryz.func26 rfl rfl rfl ?_
  refine Cd.seq ?_
  refine Cd.region ?_
  refine Seq.val (Runs.move rfl rfl) rfl rfl rfl ?_
  refine Seq.val (Runs.neqP rfl rfl rfl Tryz.underlying26) rfl rfl rfl ?_
  refine Seq.nil ?_
  refine Post.weak (F' := [(0, _), (1, _), (5, _)]) ⟨rfl, rfl, rfl, trivial⟩ ?_
  refine Post.then_ ?_
  refine Cd.condT rfl rfl ?_
  refine Cd.region ?_
  refine Seq.val (Runs.move rfl rfl) rfl rfl rfl ?_
  refine Seq.val (Runs.move rfl rfl) rfl rfl rfl ?_
  refine Seq.val (Runs.move rfl rfl) rfl rfl rfl ?_
  refine Seq.val (Runs.max2 rfl rfl rfl) rfl rfl rfl ?_
  refine Seq.val (Runs.nilCheck rfl rfl) rfl rfl rfl ?_
  refine Seq.val (Runs.fieldB 6 rfl rfl Tryz.underlying77 rfl (by kernel_rfl)) rfl rfl rfl ?_
  refine Seq.store1 rfl rfl rfl (by kernel_rfl) rfl rfl k0 rfl rfl rfl ?_
  intro w1 pw1
  replace df := df.put k0 pw1 e0
  replace mp := mp.put k0 pw1 e0
  replace fs := fs.put k0 pw1 e0
  replace k0 := pw1.blk
  refine Seq.val (Runs.nilCheck rfl rfl) rfl rfl rfl ?_
  refine Seq.val (Runs.fieldB 7 rfl rfl Tryz.underlying77 rfl (by kernel_rfl)) rfl rfl rfl ?_
  refine Seq.store1 rfl rfl rfl (by kernel_rfl) rfl rfl k0 rfl rfl rfl ?_
  intro w2 pw2
  replace df := df.put k0 pw2 e0
  replace mp := mp.put k0 pw2 e0
  replace fs := fs.put k0 pw2 e0
  replace k0 := pw2.blk
  refine Seq.nil ?_
  refine Post.weak (F' := [(0, _), (1, _), (5, _)]) ⟨rfl, rfl, rfl, trivial⟩ ?_
  refine Post.end0 rfl (.inr rfl) ?_
  rw [hm] at k0
  exact ⟨rfl, ⟨m, l, F, c1, c2, k0, mp, dk.hm, fs, dk.fl, e0, ⟨dk.ok.room0, dk.ok.room1, dk.ok.fits, hn, hn1, dk.ok.fil, dk.ok.most⟩⟩, df⟩
end Go.Proofs.YtnlepoplncjliaaGreatDoor

namespace Go.Proofs.YtnlepoplncjliaaGreatDoor
open Go.RowKit

def putL (fs : List (List Nat × Fil)) (nm : List Nat) (f : Fil) : List (List Nat × Fil) := if (fs.find? (fun p => decide (p.1 = nm))).isSome then fs.map (fun p => if p.1 = nm then (p.1, f) else p) else fs ++ [(nm, f)]
def getL (fs : List (List Nat × Fil)) (nm : List Nat) : Fil := ((fs.find? (fun p => decide (p.1 = nm))).map fun (p : List Nat × Fil) => p.2).getD ⟨[], 0⟩
def Dk.fileOf (D : Dk) (nm : List Nat) : Fil := getL D.files nm
theorem fileOf_eq (D : Dk) (nm : List Nat) : D.fileOf nm = (D.get nm).getD ⟨[], 0⟩ := rfl
theorem find_isSome (l : List (List Nat × Nat)) (F : Nat → Fil) (nm : List Nat) : ((fsOf l F).find? (fun p => decide (p.1 = nm))).isSome = (lk l nm).isSome := by
  have := congrArg Option.isSome (get_lk l F nm)
  simpa using this
theorem lk_none_of {l : List (List Nat × Nat)} {nm : List Nat} (h : lk l nm = none) : ∀ p ∈ l, p.1 ≠ nm := by
  intro p hp e
  unfold lk at h
  rw [Option.map_eq_none_iff, List.find?_eq_none] at h
  exact h p hp (by simpa using e)
theorem upd_same {l : List (List Nat × Nat)} {nm : List Nat} {b : Nat} (hn : (l.map (·.1)).Nodup) (hd : (l.map (·.2)).Nodup) (h : lk l nm = some b) : upd l nm b = l := by
  unfold upd
  rw [h]
  simp only [Option.isSome_some, if_true]
  conv => rhs; rw [← List.map_id l]
  refine List.map_congr_left fun p hp => ?_
  split
  · rename_i e
    have := (mem_one hn hd (lk_mem h) hp).1 e
    rw [← e, ← this]
    rfl
  · rfl
theorem put_fs {l : List (List Nat × Nat)} {F : Nat → Fil} {nm : List Nat} {b : Nat} (f : Fil) (hn : (l.map (·.1)).Nodup) (hd : (l.map (·.2)).Nodup) (h : lk l nm = some b ∨ lk l nm = none ∧ ∀ p ∈ l, p.2 ≠ b) : fsOf (upd l nm b) (setF F b f) = putL (fsOf l F) nm f := by
  rcases h with h | ⟨h, hb⟩
  · rw [upd_same hn hd h, ← fsOf_set hn hd h]
    unfold putL
    rw [find_isSome, h]
    rfl
  · have h1 : upd l nm b = l ++ [(nm, b)] := by unfold upd; rw [h]; rfl
    have h2 : putL (fsOf l F) nm f = fsOf l F ++ [(nm, f)] := by unfold putL; rw [find_isSome, h]; rfl
    rw [h1, h2]
    unfold fsOf
    rw [List.map_append]
    congr 1
    · refine List.map_congr_left fun p hp => ?_
      unfold setF
      rw [if_neg (hb p hp)]
    · simp [setF]
theorem put_blk {w : World} {B : Nat} {l : List (List Nat × Nat)} {F : Nat → Fil} {nm : List Nat} {b : Nat} {f : Fil} (hn : (l.map (·.1)).Nodup) (hx : Fb w B l F b) (hB : B ≤ b) (k : Blk w b 91 f.cs) (h : lk l nm = some b ∨ lk l nm = none ∧ ∀ p ∈ l, p.2 ≠ b) : Fs w B (upd l nm b) (setF F b f) := by
  have hon := hx.on k
  rcases h with h | ⟨h, hb⟩
  · rw [upd_same hn hx.nd h]
    exact hon
  · have h1 : upd l nm b = l ++ [(nm, b)] := by unfold upd; rw [h]; rfl
    rw [h1]
    refine ⟨fun p hp => ?_, ?_⟩
    · rcases List.mem_append.1 hp with hp | hp
      · exact hon.blk p hp
      · simp at hp
        subst hp
        exact ⟨hB, by simpa [setF] using k⟩
    · rw [List.map_append, List.nodup_append]
      refine ⟨hx.nd, by simp, ?_⟩
      intro a ha c hc
      simp at hc
      subst hc
      obtain ⟨p, hp, rfl⟩ := List.mem_map.1 ha
      exact hb p hp
theorem usedL_app (a b : List (List Nat × Fil)) : usedL (a ++ b) = usedL a + usedL b := by
  induction a with
  | nil => simp [usedL]
  | cons p r ih => rw [List.cons_append, usedL, usedL, ih]; omega
theorem usedL_one {fs : List (List Nat × Fil)} {nm : List Nat} {f0 : Fil} (f : Fil) (hn : (fs.map (·.1)).Nodup) (h : (nm, f0) ∈ fs) : usedL (fs.map fun p => if p.1 = nm then (p.1, f) else p) + f0.data.length = usedL fs + f.data.length := by
  induction fs with
  | nil => cases h
  | cons p r ih =>
    rw [List.map_cons, List.nodup_cons] at hn
    rw [List.map_cons, usedL, usedL]
    rcases List.mem_cons.1 h with h | h
    · subst h
      have e : (r.map fun p => if p.1 = nm then (p.1, f) else p) = r := by
        conv => rhs; rw [← List.map_id r]
        refine List.map_congr_left fun q hq => ?_
        rw [if_neg (fun e => hn.1 (List.mem_map.2 ⟨q, hq, e⟩))]
        rfl
      rw [e, if_pos rfl]
      show f.data.length + usedL r + f0.data.length = f0.data.length + usedL r + f.data.length
      omega
    · have := ih hn.2 h
      have e : p.1 ≠ nm := fun e => hn.1 (List.mem_map.2 ⟨(nm, f0), h, e.symm⟩)
      rw [if_neg e]
      omega
theorem usedL_put {fs : List (List Nat × Fil)} {nm : List Nat} (f : Fil) (hn : (fs.map (·.1)).Nodup) : usedL (putL fs nm f) + (getL fs nm).data.length = usedL fs + f.data.length := by
  unfold putL getL
  cases hf : fs.find? (fun p => decide (p.1 = nm)) with
  | none =>
    simp only [Option.isSome_none, Bool.false_eq_true, if_false, Option.map_none, Option.getD_none, List.length_nil]
    rw [usedL_app]
    simp [usedL]
  | some p =>
    have h1 := List.find?_some hf
    have h2 := List.mem_of_find?_eq_some hf
    simp only [decide_eq_true_eq] at h1
    simp only [Option.isSome_some, if_true, Option.map_some, Option.getD_some]
    have h3 : (nm, p.2) ∈ fs := by rw [← h1]; exact h2
    exact usedL_one f hn h3
theorem fs_names {l : List (List Nat × Nat)} {F : Nat → Fil} : (fsOf l F).map (·.1) = l.map (·.1) := by unfold fsOf; rw [List.map_map]; rfl
theorem putL_mem {fs : List (List Nat × Fil)} {nm : List Nat} {f : Fil} {q : List Nat × Fil} (h : q ∈ putL fs nm f) : q = (nm, f) ∨ q ∈ fs := by
  unfold putL at h
  split at h
  · obtain ⟨p, hp, rfl⟩ := List.mem_map.1 h
    split
    · rename_i e; left; rw [e]
    · exact .inr hp
  · rcases List.mem_append.1 h with h | h
    · exact .inr h
    · simp at h; exact .inl h
theorem putL_len {fs : List (List Nat × Fil)} {nm : List Nat} {f : Fil} : (putL fs nm f).length = if (fs.find? (fun p => decide (p.1 = nm))).isSome then fs.length else fs.length + 1 := by
  unfold putL
  split <;> simp
/-- Bytes behind a file's. -/
def Dk.appendE (D : Dk) (nm data : List Nat) : Int := if D.beginE [nm] ≠ 0 then D.beginE [nm] else if (D.get nm).isSome = false ∧ 200 ≤ D.files.length then 4 else if 1048576 - ((D.fileOf nm).data.length : Int) < (data.length : Int) then 4 else if D.room - D.used < (data.length : Int) then 5 else 0
def Dk.append (D : Dk) (nm data : List Nat) : Dk := if D.appendE nm data = 0 then { D.tick with files := putL D.files nm ⟨(D.fileOf nm).data ++ data, (D.fileOf nm).safe⟩ } else D.tick
theorem tick_used (D : Dk) : D.tick.used = D.used := by unfold Dk.used; rw [tick_files]
theorem fileOf_ok {D : Dk} (h : D.ok) (nm : List Nat) : (D.fileOf nm).ok := by
  rw [fileOf_eq]
  cases e : D.get nm with
  | none => exact ⟨by simp, by simp, by simp⟩
  | some f => exact (h.fil _ (get_mem e)).1
theorem append_ok {D : Dk} {nm data : List Nat} (h : D.ok) (ht : D.tick.ok) (hn : (D.files.map (·.1)).Nodup) (hnm : ∀ c ∈ nm, c < 256) (hda : ∀ c ∈ data, c < 256) (hb : D.appendE nm data = 0) (hok : nameOk nm = true) : (D.append nm data).ok ∧ (D.append nm data).used = D.used + (data.length : Int) := by
  have hA : D.append nm data = { D.tick with files := putL D.files nm ⟨(D.fileOf nm).data ++ data, (D.fileOf nm).safe⟩ } := by unfold Dk.append; rw [if_pos hb]
  have hf := fileOf_ok h nm
  unfold Dk.appendE at hb
  split at hb
  · rename_i e; exact absurd hb e
  split at hb
  · cases hb
  rename_i h1
  split at hb
  · cases hb
  rename_i h2
  split at hb
  · cases hb
  rename_i h3
  have hu := usedL_put (nm := nm) ⟨(D.fileOf nm).data ++ data, (D.fileOf nm).safe⟩ hn
  have hu2 : usedL (putL D.files nm ⟨(D.fileOf nm).data ++ data, (D.fileOf nm).safe⟩) = usedL D.files + data.length := by
    have e : getL D.files nm = D.fileOf nm := rfl
    rw [e] at hu
    simp only [List.length_append] at hu
    omega
  have hus : (D.append nm data).used = D.used + (data.length : Int) := by
    rw [hA]
    unfold Dk.used
    rw [hu2]
    omega
  refine ⟨?_, hus⟩
  have hfits : (D.append nm data).used ≤ (D.append nm data).room := by
    rw [hus, hA]
    show _ ≤ D.tick.room
    rw [tick_room]
    omega
  rw [hA] at hfits ⊢
  refine ⟨ht.room0, ht.room1, hfits, ht.left0, ht.left1, ?_, ?_⟩
  · intro p hp
    rcases putL_mem hp with rfl | hp
    · unfold nameOk at hok
      rw [Bool.and_eq_true, decide_eq_true_eq, decide_eq_true_eq] at hok
      refine ⟨⟨?_, ?_, ?_⟩, hnm, hok.1, hok.2⟩
      · intro c hc
        rcases List.mem_append.1 hc with hc | hc
        · exact hf.1 c hc
        · exact hda c hc
      · have := hf.2.1
        simp only [List.length_append]
        omega
      · simp only [List.length_append]
        omega
    · exact h.fil p hp
  · show (putL D.files nm _).length ≤ 200
    rw [putL_len]
    have hm := h.most
    have e : (D.files.find? (fun p => decide (p.1 = nm))).isSome = (D.get nm).isSome := by unfold Dk.get; rw [Option.isSome_map]
    rw [e]
    cases e2 : (D.get nm).isSome with
    | true => simpa using hm
    | false =>
      have : ¬ (200 ≤ D.files.length) := fun h4 => h1 ⟨e2, h4⟩
      simp only [Bool.false_eq_true, if_false]
      omega
theorem beginE_zero {D : Dk} {names : List (List Nat)} (h : D.beginE names = 0) : D.tick.off = false ∧ ∀ s ∈ names, nameOk s = true := by
  unfold Dk.beginE at h
  split at h
  · cases h
  rename_i h1
  split at h
  · rename_i h2
    exact ⟨by simpa using h1, fun s hs => List.all_eq_true.1 h2 s hs⟩
  · cases h
end Go.Proofs.YtnlepoplncjliaaGreatDoor

namespace Go.Proofs.YtnlepoplncjliaaGreatDoor
open Go.RowKit

theorem run_build_file0 (w : World) : (Instr.build 91 #[]).run Tryz.prog w = .ok (.agg #[.string { data := #[] }, .int .i64 0]) w := by kernel_rfl
theorem Blk.putM {w w' : World} {k m : Nat} {t : TypeId} {cs : Array Value} {l : List (List Nat × Nat)} (h : Blk w k t cs) (p : PutM w w' m l) : Blk w' k t cs := h.grown p.grown (fun e => by
  have e : k = m := by injection e
  obtain ⟨es, clk, h1⟩ := p.was
  have h2 : w.heap[k]? = some (.cells cs t) := h
  rw [e, h1] at h2
  cases h2)
theorem Fb.putM {w w' : World} {B m b : Nat} {l l' : List (List Nat × Nat)} {F : Nat → Fil} (h : Fb w B l F b) (p : PutM w w' m l') : Fb w' B l F b := ⟨fun q hq => ⟨(h.blk q hq).1, fun hne => ((h.blk q hq).2 hne).putM p⟩, h.nd⟩
theorem fb_ne {w : World} {B b : Nat} {l : List (List Nat × Nat)} {F : Nat → Fil} (h : Fs w B l F) (hb : w.heap.size ≤ b) : ∀ p ∈ l, p.2 ≠ b := fun p hp e => by
  have := (h.blk p hp).2.lt
  omega
set_option maxHeartbeats 4000000 in
theorem append_d_any (B g0 : Nat) (D : Dk) (nm data : List Nat) (w : World) (h : DkAt w B g0 D) (hnm : ∀ c ∈ nm, c < 256) (hda : ∀ c ∈ data, c < 256) (hl : nm.length ≤ 1000000000) (hdl : data.length ≤ 1000000000) :
    Calls Tryz.prog 17 #[.pointer (some ⟨g0, 0, none⟩), .string (strOf nm), .string (strOf data)] w fun e w' => e = .returned (.int .i64 (D.appendE nm data)) ∧ DkAt w' B g0 (D.append nm data) ∧ Df B w w' := by
  obtain ⟨m, l, F, c1, c2, dk⟩ := h
  have df := Df.refl B w
  have ok0 := dk.ok
  have fl0 := dk.fl
  have hg := get_some fl0 nm
  have hBw : B ≤ w.heap.size := Nat.le_trans dk.hB (Nat.le_of_lt dk.k.lt)
  have hnn := dk.mp.nodup
  refine Calls.start 90 Tryz.func17 rfl rfl rfl ?_
  refine Cd.seq ?_
  refine Cd.region ?_
  refine Seq.val (Runs.assign rfl rfl) rfl rfl rfl ?_
  refine Seq.nil ?_
  refine Post.weak (F' := [(0, _), (1, _), (2, _), (6, _)]) ⟨rfl, rfl, rfl, rfl, trivial⟩ ?_
  refine Post.then_ ?_
  refine Cd.seq ?_
  refine Cd.seq ?_
  refine Cd.region ?_
  refine Seq.val (Runs.move rfl rfl) rfl rfl rfl ?_
  refine Seq.val (Runs.move rfl rfl) rfl rfl rfl ?_
  refine Seq.slice (vs := [_]) (s := 1) rfl rfl rfl Tryz.underlying22 (by kernel_rfl) (zero_string) (by omega) (by omega) ⟨rfl, trivial⟩ rfl rfl rfl ?_
  intro g12 w1 n12
  replace df := df.step n12.below
  replace dk := dk.step n12.below
  have k12 := n12.blk
  have own : Own w1 w.heap.size 9 1 (.slice (some ⟨g12, 0, none⟩) 1 1) 1 (Ts [nm]) := Own.of_blk k12 n12.ge rfl (by decide)
  refine Seq.call (Enters.func rfl rfl rfl (run_enter Tryz.func42 (by kernel_rfl) rfl)) rfl rfl rfl (begin_any B g0 m D l F c1 c2 [nm] (.slice (some ⟨g12, 0, none⟩) 1 1) _ _ _ dk own (by simpa using hnm) (by simpa using hl) (by omega)) ?_
  clear dk
  rintro e w2 ⟨rfl, ⟨c3, dk⟩, fw2⟩
  refine ⟨_, rfl, ?_⟩
  replace df := df.df fw2
  refine Seq.val (Runs.assign rfl rfl) rfl rfl rfl ?_
  refine Seq.nil ?_
  refine Post.weak (F' := [(0, _), (1, _), (2, _), (6, _), (7, _)]) ⟨rfl, rfl, rfl, rfl, rfl, trivial⟩ ?_
  refine Post.then_ ?_
  refine Cd.seq ?_
  refine Cd.region ?_
  refine Seq.val (Runs.move rfl rfl) rfl rfl rfl ?_
  refine Seq.val (Runs.neqI rfl rfl rfl) rfl rfl rfl ?_
  refine Seq.nil ?_
  refine Post.weak (F' := [(0, _), (1, _), (2, _), (6, _), (7, _), (15, _)]) ⟨rfl, rfl, rfl, rfl, rfl, rfl, trivial⟩ ?_
  refine Post.then_ ?_
  refine Cd.cond rfl (fun h => ?_) (fun h => ?_)
  · have h : D.beginE [nm] ≠ 0 := by simpa using h
    have hE : D.appendE nm data = D.beginE [nm] := by unfold Dk.appendE; rw [if_pos h]
    have hD : D.append nm data = D.tick := by unfold Dk.append; rw [hE, if_neg h]
    refine Cd.seq ?_
    refine Cd.region ?_
    refine Seq.val (Runs.move rfl rfl) rfl rfl rfl ?_
    refine Seq.val (Runs.assign rfl rfl) rfl rfl rfl ?_
    refine Seq.nil ?_
    refine Post.weak (F' := [(0, _), (1, _), (2, _), (6, _), (7, _), (15, _)]) ⟨rfl, rfl, rfl, rfl, rfl, rfl, trivial⟩ ?_
    refine Post.then_ ?_
    refine Cd.ret ?_
    refine Post.then_ret ?_
    refine Post.end1 rfl rfl (.inl rfl) ?_
    rw [hE, hD]
    exact ⟨rfl, ⟨m, l, F, c1, c3, dk⟩, df⟩
  have hb0 : D.beginE [nm] = 0 := by simpa using h
  have okt := dk.ok
  have hnok := (beginE_zero hb0).2 nm List.mem_cons_self
  have k0 := dk.k
  have e0 := dk.hB
  have mp := dk.mp
  have fs := dk.fs
  have hm := dk.hm
  clear dk h
  have hfok := fileOf_ok ok0 nm
  have hfok1 := hfok.2.2
  have hlen : l.length = D.files.length := by rw [fl0]; unfold fsOf; rw [List.length_map]
  have hget : (D.get nm).isSome = (lk l nm).isSome := by rw [hg, Option.isSome_map]
  have hE0 : D.appendE nm data = if (D.get nm).isSome = false ∧ 200 ≤ D.files.length then 4 else if 1048576 - ((D.fileOf nm).data.length : Int) < (data.length : Int) then 4 else if D.room - D.used < (data.length : Int) then 5 else 0 := by unfold Dk.appendE; rw [if_neg (by omega)]
  have hDat : ∀ w', DkAt w' B g0 D.tick → D.appendE nm data ≠ 0 → DkAt w' B g0 (D.append nm data) := fun w' hd hne => by unfold Dk.append; rw [if_neg hne]; exact hd
  refine Cd.skip ?_
  refine Post.then_ ?_
  refine Cd.seq ?_
  refine Cd.region ?_
  refine Seq.val (Runs.move rfl rfl) rfl rfl rfl ?_
  refine Seq.val (Runs.nilCheck rfl rfl) rfl rfl rfl ?_
  refine Seq.val (Runs.fieldB 1 rfl rfl Tryz.underlying77 rfl (by kernel_rfl)) rfl rfl rfl ?_
  refine Seq.val (Runs.loadB rfl rfl Tryz.underlying75 rfl k0 rfl) rfl rfl rfl ?_
  refine Seq.val (Runs.move rfl rfl) rfl rfl rfl ?_
  refine Seq.val (Runs.lookup2 rfl rfl rfl mp hnm Tryz.underlying75 Tryz.underlying9 zero_pfile) rfl rfl rfl ?_
  refine Seq.val (Runs.move rfl rfl) rfl rfl rfl ?_
  refine Seq.val (Runs.extract rfl rfl rfl) rfl rfl rfl ?_
  refine Seq.val (Runs.extract rfl rfl rfl) rfl rfl rfl ?_
  refine Seq.val (Runs.assign rfl rfl) rfl rfl rfl ?_
  refine Seq.val (Runs.assign rfl rfl) rfl rfl rfl ?_
  refine Seq.nil ?_
  refine Post.weak (F' := [(0, _), (1, _), (2, _), (6, _), (7, _), (8, _), (9, _), (15, _)]) ⟨rfl, rfl, rfl, rfl, rfl, rfl, rfl, rfl, trivial⟩ ?_
  refine Post.then_ ?_
  refine Cd.seqJ (σ := Nat) (fun gf => [(0, .pointer (some ⟨g0, 0, none⟩)), (1, .string (strOf nm)), (2, .string (strOf data)), (8, .pointer (some ⟨gf, 0, none⟩))]) (fun gf wr => ¬ ((D.get nm).isSome = false ∧ 200 ≤ D.files.length) ∧ Df B w wr ∧ Blk wr g0 77 (D.tick.cs m c1 c3) ∧ Mp wr m l ∧ Fb wr B l F gf ∧ B ≤ gf ∧ Blk wr gf 91 (D.fileOf nm).cs ∧ (lk l nm = some gf ∨ lk l nm = none ∧ ∀ p ∈ l, p.2 ≠ gf)) ?_ ?_
  · skip
    refine Cd.block ?_
    refine Cd.seq ?_
    refine Cd.region ?_
    refine Seq.val (Runs.move rfl rfl) rfl rfl rfl ?_
    refine Seq.val (Runs.not rfl rfl) rfl rfl rfl ?_
    refine Seq.val (Runs.move rfl rfl) rfl rfl rfl ?_
    refine SeqC.start ?_
    refine SeqC.open rfl rfl rfl rfl rfl rfl rfl (fun hcx => Runs.move rfl rfl) ?_
    refine SeqC.next rfl rfl rfl rfl rfl rfl rfl (fun hcx => Runs.nilCheck rfl rfl) ?_
    refine SeqC.next rfl rfl rfl rfl rfl rfl rfl (fun hcx => Runs.fieldB 1 rfl rfl Tryz.underlying77 rfl (by kernel_rfl)) ?_
    refine SeqC.next rfl rfl rfl rfl rfl rfl rfl (fun hcx => Runs.loadB rfl rfl Tryz.underlying75 rfl k0 rfl) ?_
    refine SeqC.next rfl rfl rfl rfl rfl rfl rfl (fun hcx => Runs.lenM rfl rfl mp Tryz.underlying75) ?_
    refine SeqC.next rfl rfl rfl rfl rfl rfl rfl (fun hcx => Runs.geq rfl rfl rfl) ?_
    refine SeqC.and rfl rfl rfl rfl rfl rfl rfl ?_
    refine Seq.val (Runs.assign rfl rfl) rfl rfl rfl ?_
    refine Seq.nil ?_
    refine Post.weak (F' := [(0, _), (1, _), (2, _), (6, _), (7, _), (8, _), (9, _), (15, _), (26, _)]) ⟨rfl, rfl, rfl, rfl, rfl, rfl, rfl, rfl, rfl, trivial⟩ ?_
    refine Post.then_ ?_
    refine Cd.cond rfl (fun h => ?_) (fun h => ?_)
    · have h' : (!(lk l nm).isSome && decide ((200 : Int) ≤ (l.length : Int))) = true := h
      rw [Bool.and_eq_true, decide_eq_true_eq, hlen, ← hget] at h'
      have h1 : (D.get nm).isSome = false ∧ 200 ≤ D.files.length := ⟨by simpa using h'.1, by omega⟩
      have hE : D.appendE nm data = 4 := by rw [hE0, if_pos h1]
      refine Cd.seq ?_
      refine Cd.region ?_
      refine Seq.val (Runs.assign rfl rfl) rfl rfl rfl ?_
      refine Seq.nil ?_
      refine Post.weak (F' := [(0, _), (1, _), (2, _), (6, _), (7, _), (8, _), (9, _), (15, _), (26, _)]) ⟨rfl, rfl, rfl, rfl, rfl, rfl, rfl, rfl, rfl, trivial⟩ ?_
      refine Post.then_ ?_
      refine Cd.ret ?_
      refine Post.block_ret ?_
      refine Post.then_ret ?_
      refine Post.end1 rfl rfl (.inl rfl) ?_
      rw [hE]
      exact ⟨rfl, hDat _ ⟨m, l, F, c1, c3, k0, mp, hm, fs, by rw [tick_files]; exact fl0, e0, okt⟩ (by omega), df⟩
    have h' : (!(lk l nm).isSome && decide ((200 : Int) ≤ (l.length : Int))) = false := h
    have h1 : ¬ ((D.get nm).isSome = false ∧ 200 ≤ D.files.length) := by
      rintro ⟨h2, h3⟩
      rw [hget] at h2
      rw [h2, hlen, decide_eq_true (by omega)] at h'
      cases h'
    refine Cd.seq ?_
    refine Cd.region ?_
    refine Seq.val (Runs.move rfl rfl) rfl rfl rfl ?_
    refine Seq.val (Runs.not rfl rfl) rfl rfl rfl ?_
    refine Seq.val (Runs.assign rfl rfl) rfl rfl rfl ?_
    refine Seq.nil ?_
    refine Post.weak (F' := [(0, _), (1, _), (2, _), (6, _), (7, _), (8, _), (9, _), (15, _), (26, _), (37, _)]) ⟨rfl, rfl, rfl, rfl, rfl, rfl, rfl, rfl, rfl, rfl, trivial⟩ ?_
    refine Post.then_ ?_
    refine Cd.cond rfl (fun h => ?_) (fun h => ?_)
    · have h2 : lk l nm = none := by
        have h' : (!(lk l nm).isSome) = true := h
        cases e : lk l nm with
        | none => rfl
        | some b => rw [e] at h'; cases h'
      have hfo : D.fileOf nm = ⟨[], 0⟩ := by rw [fileOf_eq, hg, h2]; rfl
      have hfs := fs
      refine Cd.region ?_
      refine Seq.val (Runs.build rfl rfl (run_build_file0 _)) rfl rfl rfl ?_
      refine Seq.box rfl rfl rfl rfl rfl ?_
      intro g41 w3 n41
      have l41 := Nat.lt_of_lt_of_le k0.lt n41.ge
      replace df := df.step n41.below
      replace k0 := k0.step n41.below
      replace mp := mp.step n41.below
      replace fs := fs.step n41.below
      have k41 := n41.blk
      refine Seq.val (Runs.assign rfl rfl) rfl rfl rfl ?_
      refine Seq.nil ?_
      refine Post.weak (F' := [(0, _), (1, _), (2, _), (6, _), (7, _), (8, _), (9, _), (15, _), (26, _), (37, _)]) ⟨rfl, rfl, rfl, rfl, rfl, rfl, rfl, rfl, rfl, rfl, trivial⟩ ?_
      refine Post.block_normal ?_
      have hne := fb_ne (b := g41) hfs n41.ge
      exact Post.join g41 ⟨rfl, rfl, rfl, rfl, trivial⟩ ⟨h1, df, k0, mp, fs.off g41, by omega, by rw [hfo]; exact k41, .inr ⟨h2, hne⟩⟩
    · have h2 : (lk l nm).isSome = true := by
        have h' : (!(lk l nm).isSome) = false := h
        simpa using h'
      obtain ⟨g8, hg8⟩ := Option.isSome_iff_exists.1 h2
      have hfo : D.fileOf nm = F g8 := by rw [fileOf_eq, hg, hg8]; rfl
      have hv : lkV l nm = .pointer (some ⟨g8, 0, none⟩) := by unfold lkV; rw [hg8]; rfl
      obtain ⟨e8, k8⟩ : B ≤ g8 ∧ Blk _ g8 91 (F g8).cs := fs.blk _ (lk_mem hg8)
      rw [hv]
      refine Cd.skip ?_
      refine Post.block_normal ?_
      exact Post.join g8 ⟨rfl, rfl, rfl, rfl, trivial⟩ ⟨h1, df, k0, mp, fs.off g8, e8, by rw [hfo]; exact k8, .inl hg8⟩
  clear df k0 mp fs
  rintro g8 wj ⟨hno, df, k0, mp, fx, e8, k8, hor⟩
  have hback : ∀ w', Fb w' B l F g8 → Blk w' g8 91 (D.fileOf nm).cs → Fs w' B l F := fun w' hx hk => by
    rcases hor with ho | ⟨ho, hb⟩
    · have hfo : D.fileOf nm = F g8 := by rw [fileOf_eq, hg, ho]; rfl
      rw [hfo] at hk
      refine ⟨fun p hp => ⟨(hx.blk p hp).1, ?_⟩, hx.nd⟩
      by_cases e : p.2 = g8
      · rw [e]; exact hk
      · exact (hx.blk p hp).2 e
    · exact ⟨fun p hp => ⟨(hx.blk p hp).1, (hx.blk p hp).2 (hb p hp)⟩, hx.nd⟩
  have hdk : ∀ w', Blk w' g0 77 (D.tick.cs m c1 c3) → Mp w' m l → Fb w' B l F g8 → Blk w' g8 91 (D.fileOf nm).cs → DkAt w' B g0 D.tick := fun w' h1 h2 h3 h4 => ⟨m, l, F, c1, c3, h1, h2, hm, hback w' h3 h4, by rw [tick_files]; exact fl0, e0, okt⟩
  have hne08 := k0.neT k8
  refine Cd.seq ?_
  refine Cd.block ?_
  refine Cd.seq ?_
  refine Cd.region ?_
  refine Seq.val (Runs.move rfl rfl) rfl rfl rfl ?_
  refine Seq.val (Runs.lenL rfl rfl Tryz.underlying9) rfl rfl rfl ?_
  refine Seq.val (Runs.move rfl rfl) rfl rfl rfl ?_
  refine Seq.val (Runs.nilCheck rfl rfl) rfl rfl rfl ?_
  refine Seq.val (Runs.fieldB 0 rfl rfl Tryz.underlying91 rfl (by kernel_rfl)) rfl rfl rfl ?_
  refine Seq.val (Runs.loadB rfl rfl Tryz.underlying9 rfl k8 rfl) rfl rfl rfl ?_
  refine Seq.val (Runs.lenL rfl rfl Tryz.underlying9) rfl rfl rfl ?_
  refine Seq.val (Runs.subI rfl rfl rfl (by omega) (by omega)) rfl rfl rfl ?_
  refine Seq.val (Runs.gtr rfl rfl rfl) rfl rfl rfl ?_
  refine Seq.val (Runs.assign rfl rfl) rfl rfl rfl ?_
  refine Seq.nil ?_
  refine Post.weak (F' := [(0, _), (1, _), (2, _), (8, _), (42, _)]) ⟨rfl, rfl, rfl, rfl, rfl, trivial⟩ ?_
  refine Post.then_ ?_
  refine Cd.cond rfl (fun h => ?_) (fun h => ?_)
  · have h1 : 1048576 - ((D.fileOf nm).data.length : Int) < (data.length : Int) := by simpa using h
    have hE : D.appendE nm data = 4 := by rw [hE0, if_neg hno, if_pos h1]
    refine Cd.seq ?_
    refine Cd.region ?_
    refine Seq.val (Runs.assign rfl rfl) rfl rfl rfl ?_
    refine Seq.nil ?_
    refine Post.weak (F' := [(0, _), (1, _), (2, _), (6, _), (8, _), (42, _)]) ⟨rfl, rfl, rfl, rfl, rfl, rfl, trivial⟩ ?_
    refine Post.then_ ?_
    refine Cd.ret ?_
    refine Post.block_ret ?_
    refine Post.then_ret ?_
    refine Post.end1 rfl rfl (.inl rfl) ?_
    rw [hE]
    exact ⟨rfl, hDat _ (hdk _ k0 mp fx k8) (by omega), df⟩
  have h1 : ¬ (1048576 - ((D.fileOf nm).data.length : Int) < (data.length : Int)) := by simpa using h
  refine Cd.seq ?_
  refine Cd.region ?_
  refine Seq.val (Runs.move rfl rfl) rfl rfl rfl ?_
  refine Seq.val (Runs.lenL rfl rfl Tryz.underlying9) rfl rfl rfl ?_
  refine Seq.val (Runs.move rfl rfl) rfl rfl rfl ?_
  refine Seq.call (Enters.func rfl rfl rfl (run_enter Tryz.func14 (by kernel_rfl) rfl)) rfl rfl rfl (free_any B g0 D.tick _ (hdk _ k0 mp fx k8)) ?_
  rw [tick_room, tick_used]
  rintro en x9 ⟨rfl, hb9⟩
  refine ⟨_, rfl, ?_⟩
  replace df := df.step hb9
  replace k0 := k0.step hb9
  replace mp := mp.step hb9
  replace fx := fx.step hb9
  replace k8 := k8.step hb9
  refine Seq.val (Runs.gtr rfl rfl rfl) rfl rfl rfl ?_
  refine Seq.val (Runs.assign rfl rfl) rfl rfl rfl ?_
  refine Seq.nil ?_
  refine Post.weak (F' := [(0, _), (1, _), (2, _), (8, _), (42, _), (52, _)]) ⟨rfl, rfl, rfl, rfl, rfl, rfl, trivial⟩ ?_
  refine Post.then_ ?_
  refine Cd.cond rfl (fun h => ?_) (fun h => ?_)
  · have h2 : D.room - D.used < (data.length : Int) := by simpa using h
    have hE : D.appendE nm data = 5 := by rw [hE0, if_neg hno, if_neg h1, if_pos h2]
    refine Cd.seq ?_
    refine Cd.region ?_
    refine Seq.val (Runs.assign rfl rfl) rfl rfl rfl ?_
    refine Seq.nil ?_
    refine Post.weak (F' := [(0, _), (1, _), (2, _), (6, _), (8, _), (42, _), (52, _)]) ⟨rfl, rfl, rfl, rfl, rfl, rfl, rfl, trivial⟩ ?_
    refine Post.then_ ?_
    refine Cd.ret ?_
    refine Post.block_ret ?_
    refine Post.then_ret ?_
    refine Post.end1 rfl rfl (.inl rfl) ?_
    rw [hE]
    exact ⟨rfl, hDat _ (hdk _ k0 mp fx k8) (by omega), df⟩
  have h2 : ¬ (D.room - D.used < (data.length : Int)) := by simpa using h
  have hE : D.appendE nm data = 0 := by rw [hE0, if_neg hno, if_neg h1, if_neg h2]
  have hfin := append_ok ok0 okt (by rw [fl0, fs_names]; exact hnn) hnm hda hE hnok
  rw [hE]
  refine Cd.skip ?_
  refine Post.block_normal ?_
  refine Post.then_ ?_
  refine Cd.seq ?_
  refine Cd.region ?_
  refine Seq.val (Runs.move rfl rfl) rfl rfl rfl ?_
  refine Seq.val (Runs.nilCheck rfl rfl) rfl rfl rfl ?_
  refine Seq.val (Runs.fieldB 0 rfl rfl Tryz.underlying91 rfl (by kernel_rfl)) rfl rfl rfl ?_
  refine Seq.val (Runs.loadB rfl rfl Tryz.underlying9 rfl k8 rfl) rfl rfl rfl ?_
  refine Seq.val (Runs.move rfl rfl) rfl rfl rfl ?_
  refine Seq.val (Runs.addL rfl rfl rfl (by omega)) rfl rfl rfl ?_
  refine Seq.val (Runs.nilCheck rfl rfl) rfl rfl rfl ?_
  refine Seq.val (Runs.fieldB 0 rfl rfl Tryz.underlying91 rfl (by kernel_rfl)) rfl rfl rfl ?_
  refine Seq.store1 rfl rfl rfl (by kernel_rfl) rfl rfl k8 rfl rfl rfl ?_
  intro w3 pw3
  replace df := df.put k8 pw3 e8
  replace k0 := k0.put pw3 (by omega)
  replace mp := mp.put k8 pw3 e8
  replace fx := fx.put k8 pw3 e8
  replace k8 := pw3.blk
  refine Seq.nil ?_
  refine Post.weak (F' := [(0, _), (1, _), (2, _), (8, _), (42, _), (52, _)]) ⟨rfl, rfl, rfl, rfl, rfl, rfl, trivial⟩ ?_
  refine Post.then_ ?_
  refine Cd.seq ?_
  refine Cd.region ?_
  refine Seq.val (Runs.move rfl rfl) rfl rfl rfl ?_
  refine Seq.val (Runs.nilCheck rfl rfl) rfl rfl rfl ?_
  refine Seq.val (Runs.fieldB 1 rfl rfl Tryz.underlying77 rfl (by kernel_rfl)) rfl rfl rfl ?_
  refine Seq.val (Runs.loadB rfl rfl Tryz.underlying75 rfl k0 rfl) rfl rfl rfl ?_
  refine Seq.val (Runs.move rfl rfl) rfl rfl rfl ?_
  refine Seq.val (Runs.move rfl rfl) rfl rfl rfl ?_
  obtain ⟨fn, hfn⟩ : ∃ fn, fn = Fil.mk ((D.fileOf nm).data ++ data) (D.fileOf nm).safe := ⟨_, rfl⟩
  replace k8 : Blk _ g8 91 (Fil.mk ((D.fileOf nm).data ++ data) (D.fileOf nm).safe).cs := k8
  rw [← hfn] at k8
  refine Seq.mapUpd rfl rfl rfl rfl mp hnm Tryz.underlying75 Tryz.underlying9 rfl rfl ?_
  intro wm pm
  replace df := df.putM hm pm
  replace k0 := k0.putM pm
  replace k8 := k8.putM pm
  replace fx := fx.putM pm
  replace mp := pm.mp
  clear pm
  have fs : Fs wm B (upd l nm g8) (setF F g8 fn) := put_blk hnn fx e8 k8 hor
  have hfiles : (D.append nm data).files = fsOf (upd l nm g8) (setF F g8 fn) := by
    unfold Dk.append
    rw [if_pos hE]
    show putL D.files nm _ = _
    rw [← hfn, fl0]
    exact (put_fs fn hnn fx.nd hor).symm
  obtain ⟨us, hus⟩ : ∃ us, us = D.tick.used := ⟨_, rfl⟩
  have hu0 : 0 ≤ us := by rw [hus]; exact Int.natCast_nonneg _
  have hu1 : us ≤ 16777216 := by rw [hus]; have := okt.fits; have := okt.room1; omega
  replace k0 : Blk wm g0 77 #[.int .i64 D.tick.room, .map (some m), .int .i64 us, .int .i64 c1, .int .i64 c3, .bool D.tick.off, .bool D.tick.armed, .int .i64 D.tick.left] := by rw [hus]; exact k0
  clear fx k8
  refine Seq.nil ?_
  refine Post.weak (F' := [(0, _), (1, _), (2, _), (8, _), (42, _), (52, _)]) ⟨rfl, rfl, rfl, rfl, rfl, rfl, trivial⟩ ?_
  refine Post.then_ ?_
  refine Cd.seq ?_
  refine Cd.region ?_
  refine Seq.val (Runs.move rfl rfl) rfl rfl rfl ?_
  refine Seq.val (Runs.nilCheck rfl rfl) rfl rfl rfl ?_
  refine Seq.val (Runs.fieldB 2 rfl rfl Tryz.underlying77 rfl (by kernel_rfl)) rfl rfl rfl ?_
  refine Seq.val (Runs.loadB rfl rfl Tryz.underlying3 rfl k0 rfl) rfl rfl rfl ?_
  refine Seq.val (Runs.move rfl rfl) rfl rfl rfl ?_
  refine Seq.val (Runs.lenL rfl rfl Tryz.underlying9) rfl rfl rfl ?_
  refine Seq.val (Runs.addI rfl rfl rfl (by omega) (by omega)) rfl rfl rfl ?_
  refine Seq.val (Runs.nilCheck rfl rfl) rfl rfl rfl ?_
  refine Seq.val (Runs.fieldB 2 rfl rfl Tryz.underlying77 rfl (by kernel_rfl)) rfl rfl rfl ?_
  refine Seq.store1 rfl rfl rfl (by kernel_rfl) rfl rfl k0 rfl rfl rfl ?_
  intro w4 pw4
  replace df := df.put k0 pw4 e0
  replace mp := mp.put k0 pw4 e0
  replace fs := fs.put k0 pw4 e0
  replace k0 := pw4.blk
  refine Seq.nil ?_
  refine Post.weak (F' := [(0, _), (1, _), (2, _), (8, _), (42, _), (52, _)]) ⟨rfl, rfl, rfl, rfl, rfl, rfl, trivial⟩ ?_
  refine Post.then_ ?_
  refine Cd.seq ?_
  refine Cd.region ?_
  replace k0 : Blk _ g0 77 #[.int .i64 D.tick.room, .map (some m), .int .i64 (us + (data.length : Int)), .int .i64 c1, .int .i64 c3, .bool D.tick.off, .bool D.tick.armed, .int .i64 D.tick.left] := k0
  refine Seq.val (Runs.move rfl rfl) rfl rfl rfl ?_
  refine Seq.val (Runs.nilCheck rfl rfl) rfl rfl rfl ?_
  refine Seq.val (Runs.fieldB 3 rfl rfl Tryz.underlying77 rfl (by kernel_rfl)) rfl rfl rfl ?_
  refine Seq.val (Runs.loadB rfl rfl Tryz.underlying3 rfl k0 rfl) rfl rfl rfl ?_
  refine Seq.val (Runs.move rfl rfl) rfl rfl rfl ?_
  refine Seq.val (Runs.lenL rfl rfl Tryz.underlying9) rfl rfl rfl ?_
  refine Seq.val (Runs.addW rfl rfl rfl rfl) rfl rfl rfl ?_
  refine Seq.val (Runs.nilCheck rfl rfl) rfl rfl rfl ?_
  refine Seq.val (Runs.fieldB 3 rfl rfl Tryz.underlying77 rfl (by kernel_rfl)) rfl rfl rfl ?_
  refine Seq.store1 rfl rfl rfl (by kernel_rfl) rfl rfl k0 rfl rfl rfl ?_
  intro w5 pw5
  replace df := df.put k0 pw5 e0
  replace mp := mp.put k0 pw5 e0
  replace fs := fs.put k0 pw5 e0
  replace k0 := pw5.blk
  refine Seq.nil ?_
  refine Post.weak (F' := [(0, _), (1, _), (2, _), (8, _), (42, _), (52, _)]) ⟨rfl, rfl, rfl, rfl, rfl, rfl, trivial⟩ ?_
  refine Post.then_ ?_
  refine Cd.seq ?_
  refine Cd.region ?_
  refine Seq.val (Runs.assign rfl rfl) rfl rfl rfl ?_
  refine Seq.nil ?_
  refine Post.weak (F' := [(0, _), (1, _), (2, _), (6, _), (8, _), (42, _), (52, _)]) ⟨rfl, rfl, rfl, rfl, rfl, rfl, rfl, trivial⟩ ?_
  refine Post.then_ ?_
  refine Cd.ret ?_
  refine Post.end1 rfl rfl (.inl rfl) ?_
  have hap : D.append nm data = { D.tick with files := (D.append nm data).files } := by unfold Dk.append; rw [if_pos hE]
  have hus2 : (D.append nm data).used = us + (data.length : Int) := by rw [hfin.2, hus, tick_used]
  refine ⟨rfl, ⟨m, upd l nm g8, setF F g8 fn, IntKind.i64.wrap (c1 + (data.length : Int)), c3, ?_, mp, hm, fs, hfiles, e0, hfin.1⟩, df⟩
  unfold Dk.cs
  rw [hus2, hap]
  exact k0
end Go.Proofs.YtnlepoplncjliaaGreatDoor

namespace Go.Proofs.YtnlepoplncjliaaGreatDoor
open Go.RowKit

section
variable {P : Program} {ops : Array Oper} {Q : Exit → Act → World → Prop} {rest : List Oper} {E : Operand → Option Value} {F : List (Nat × Value)} {o : Oper} {w : World} {x y z : Operand} {t k e m n d : Nat} {l : List (List Nat × Nat)} {nm : List Nat}
theorem Seq.mapDel0 (ho : o.op = .call { callee := .builtin .delete, args := #[x, y], argTypes := #[t, k] }) (hx : evF F x = some (.map (some m))) (hy : evF F y = some (.string (strOf nm))) (h : Mp w m l) (hn : ∀ c ∈ nm, c < 256) (ht : P.underlying t = some (.map k e)) (hk : P.underlying k = some .string)
    (hg : o.guard = none) (hd : o.dst = none) (hr : ∀ w', PutM w w' m (del l nm) → Seq P ops Q rest n F w') : Seq P ops Q (o :: rest) n F w := by
  obtain ⟨w', h1, h2⟩ := Mp.delete (ty := o.type) h ht hk hn
  refine Seq.val0 (v := .tuple #[]) (w' := w') (fun ρ hρ => ?_) hg hd (hr w' h2)
  unfold execOp
  simp only [ho, resolve, invoke, builtin, Sem.run_bind, Sem.run_pure, Result.andThen_ok, List.map_toArray, List.map_cons, List.map_nil, hρ _ _ hx, hρ _ _ hy, h1]
end
theorem fsOf_del (l : List (List Nat × Nat)) (F : Nat → Fil) (nm : List Nat) : fsOf (del l nm) F = (fsOf l F).filter (fun p => decide (p.1 ≠ nm)) := by
  unfold fsOf del
  rw [List.filter_map]
  rfl
theorem usedL_del {fs : List (List Nat × Fil)} {nm : List Nat} (hn : (fs.map (·.1)).Nodup) : usedL (fs.filter fun p => decide (p.1 ≠ nm)) + (getL fs nm).data.length = usedL fs := by
  induction fs with
  | nil => rfl
  | cons p r ih =>
    rw [List.map_cons, List.nodup_cons] at hn
    by_cases e : p.1 = nm
    · have hs : r.filter (fun p => decide (p.1 ≠ nm)) = r := by
        rw [List.filter_eq_self]
        intro q hq
        rw [decide_eq_true_eq]
        intro e2
        exact hn.1 (by rw [e, ← e2]; exact List.mem_map.2 ⟨q, hq, rfl⟩)
      have hg : getL (p :: r) nm = p.2 := by
        unfold getL
        rw [List.find?_cons_of_pos (by simpa using e)]
        rfl
      rw [List.filter_cons_of_neg (by simp [e]), hs, usedL, hg]
      omega
    · have hg : getL (p :: r) nm = getL r nm := by
        unfold getL
        rw [List.find?_cons_of_neg (by simpa using e)]
      rw [List.filter_cons_of_pos (by simpa using e), usedL, usedL, hg]
      have := ih hn.2
      omega
theorem Fs.del {w : World} {B : Nat} {l : List (List Nat × Nat)} {F : Nat → Fil} (h : Fs w B l F) (nm : List Nat) : Fs w B (del l nm) F :=
  ⟨fun p hp => h.blk p (List.mem_filter.1 hp).1, h.nd.sublist (List.Sublist.map _ (List.filter_sublist))⟩
theorem Fs.putM {w w' : World} {B m : Nat} {l l' : List (List Nat × Nat)} {F : Nat → Fil} (h : Fs w B l F) (p : PutM w w' m l') : Fs w' B l F := ⟨fun q hq => ⟨(h.blk q hq).1, (h.blk q hq).2.putM p⟩, h.nd⟩
/-- Without a file. -/
def Dk.wipe (D : Dk) (nm : List Nat) : Dk := { D with files := D.files.filter fun p => decide (p.1 ≠ nm) }
theorem wipe_used {D : Dk} {nm : List Nat} (hn : (D.files.map (·.1)).Nodup) : (D.wipe nm).used + ((D.fileOf nm).data.length : Int) = D.used := by
  have := usedL_del (nm := nm) hn
  show (usedL (D.files.filter fun p => decide (p.1 ≠ nm)) : Int) + ((getL D.files nm).data.length : Int) = (usedL D.files : Int)
  omega
theorem wipe_ok {D : Dk} {nm : List Nat} (h : D.ok) (hn : (D.files.map (·.1)).Nodup) : (D.wipe nm).ok := by
  have hu := wipe_used (nm := nm) hn
  refine ⟨h.room0, h.room1, ?_, h.left0, h.left1, fun p hp => h.fil p (List.mem_filter.1 hp).1, Nat.le_trans (List.length_filter_le _ _) h.most⟩
  have := h.fits
  show (D.wipe nm).used ≤ D.room
  omega
theorem wipe_none {D : Dk} {nm : List Nat} (h : D.get nm = none) : D.wipe nm = D := by
  unfold Dk.wipe
  have : (D.files.filter fun p => decide (p.1 ≠ nm)) = D.files := by
    rw [List.filter_eq_self]
    intro p hp
    rw [decide_eq_true_eq]
    intro e
    unfold Dk.get at h
    rw [Option.map_eq_none_iff, List.find?_eq_none] at h
    exact h p hp (by simpa using e)
  rw [this]
theorem drop_d_any (B g0 m : Nat) (D : Dk) (l : List (List Nat × Nat)) (F : Nat → Fil) (c1 c2 : Int) (nm : List Nat) (w : World) (h : DkR w B g0 D m l F c1 c2) (hsm : ∀ c ∈ nm, c < 256) :
    Calls Tryz.prog 93 #[.pointer (some ⟨g0, 0, none⟩), .string (strOf nm)] w fun e w' => e = .returned (.tuple #[]) ∧ DkR w' B g0 (D.wipe nm) m (del l nm) F c1 c2 ∧ Df B w w' := by
  obtain ⟨k0, mp, hm, fs, fl0, e0, ok0⟩ := h
  have df := Df.refl B w
  have hBw : B ≤ w.heap.size := Nat.le_trans e0 (Nat.le_of_lt k0.lt)
  have hg := get_some fl0 nm
  have hnn := mp.nodup
  have hnd : (D.files.map (·.1)).Nodup := by rw [fl0, fs_names]; exact hnn
  refine Calls.start 33 Tryz.func93 rfl rfl rfl ?_
  refine Cd.seq ?_
  refine Cd.region ?_
  refine Seq.val (Runs.move rfl rfl) rfl rfl rfl ?_
  refine Seq.val (Runs.nilCheck rfl rfl) rfl rfl rfl ?_
  refine Seq.val (Runs.fieldB 1 rfl rfl Tryz.underlying77 rfl (by kernel_rfl)) rfl rfl rfl ?_
  refine Seq.val (Runs.loadB rfl rfl Tryz.underlying75 rfl k0 rfl) rfl rfl rfl ?_
  refine Seq.val (Runs.move rfl rfl) rfl rfl rfl ?_
  refine Seq.val (Runs.lookup2 rfl rfl rfl mp hsm Tryz.underlying75 Tryz.underlying9 zero_pfile) rfl rfl rfl ?_
  refine Seq.val (Runs.move rfl rfl) rfl rfl rfl ?_
  refine Seq.val (Runs.extract rfl rfl rfl) rfl rfl rfl ?_
  refine Seq.val (Runs.extract rfl rfl rfl) rfl rfl rfl ?_
  refine Seq.val (Runs.assign rfl rfl) rfl rfl rfl ?_
  refine Seq.val (Runs.assign rfl rfl) rfl rfl rfl ?_
  refine Seq.nil ?_
  refine Post.weak (F' := [(0, _), (1, _), (4, _), (5, _)]) ⟨rfl, rfl, rfl, rfl, trivial⟩ ?_
  refine Post.then_ ?_
  refine Cd.seq ?_
  refine Cd.region ?_
  refine Seq.val (Runs.move rfl rfl) rfl rfl rfl ?_
  refine Seq.nil ?_
  refine Post.weak (F' := [(0, _), (1, _), (4, _), (5, _), (15, _)]) ⟨rfl, rfl, rfl, rfl, rfl, trivial⟩ ?_
  refine Post.then_ ?_
  refine Cd.cond rfl (fun h => ?_) (fun h => ?_)
  · have h : (lk l nm).isSome = true := h
    obtain ⟨g4, hg4⟩ := Option.isSome_iff_exists.1 h
    have hv : lkV l nm = .pointer (some ⟨g4, 0, none⟩) := by unfold lkV; rw [hg4]; rfl
    obtain ⟨e4, k4⟩ : B ≤ g4 ∧ Blk _ g4 91 (F g4).cs := fs.blk _ (lk_mem hg4)
    have hne04 := k0.neT k4
    have hgg : D.get nm = some (F g4) := by rw [hg, hg4]; rfl
    have hfo : D.fileOf nm = F g4 := by rw [fileOf_eq, hgg]; rfl
    have hu := wipe_used (nm := nm) hnd
    rw [hfo] at hu
    have hfo1 : (F g4).data.length ≤ 1048576 := (ok0.fil _ (get_mem hgg)).1.2.2
    have hwok := wipe_ok (nm := nm) ok0 hnd
    obtain ⟨us, hus⟩ : ∃ us, us = D.used := ⟨_, rfl⟩
    have hu0 : 0 ≤ us := by rw [hus]; exact Int.natCast_nonneg _
    have hu1 : us ≤ 16777216 := by rw [hus]; have := ok0.fits; have := ok0.room1; omega
    replace k0 : Blk w g0 77 #[.int .i64 D.room, .map (some m), .int .i64 us, .int .i64 c1, .int .i64 c2, .bool D.off, .bool D.armed, .int .i64 D.left] := by rw [hus]; exact k0
    rw [hv]
    refine Cd.seq ?_
    refine Cd.draw 12 (by kernel_rfl) [] (.inl rfl) rfl Grow Grow.refl (fun _ _ _ => Grow.trans) ?_
    intro w1 hw1 zw1
    replace df := df.step hw1
    replace k0 := k0.step hw1
    replace mp := mp.step hw1
    replace fs := fs.step hw1
    replace k4 := k4.step hw1
    have zlt := k4.lt
    refine Dr.val Grow.refl rfl (fun w hG => Runs.move rfl rfl) rfl ?_
    refine Dr.val Grow.refl rfl (fun w hG => Runs.nilCheck rfl rfl) rfl ?_
    refine Dr.val Grow.refl rfl (fun w hG => Runs.fieldB 2 rfl rfl Tryz.underlying77 rfl (by kernel_rfl)) rfl ?_
    refine Dr.val Grow.refl rfl (fun w hG => Runs.loadB rfl rfl Tryz.underlying3 rfl (k0.step hG) rfl) rfl ?_
    refine Dr.val Grow.refl rfl (fun w hG => Runs.move rfl rfl) rfl ?_
    refine Dr.val Grow.refl rfl (fun w hG => Runs.nilCheck rfl rfl) rfl ?_
    refine Dr.val Grow.refl rfl (fun w hG => Runs.fieldB 0 rfl rfl Tryz.underlying91 rfl (by kernel_rfl)) rfl ?_
    refine Dr.val Grow.refl rfl (fun w hG => Runs.loadB rfl rfl Tryz.underlying9 rfl (k4.step hG) rfl) rfl ?_
    refine Dr.val Grow.refl rfl (fun w hG => Runs.lenL rfl rfl Tryz.underlying9) rfl ?_
    refine Dr.val Grow.refl rfl (fun w hG => Runs.subI rfl rfl rfl (by omega) (by omega)) rfl ?_
    refine Dr.val Grow.refl rfl (fun w hG => Runs.nilCheck rfl rfl) rfl ?_
    refine Dr.val Grow.refl rfl (fun w hG => Runs.fieldB 2 rfl rfl Tryz.underlying77 rfl (by kernel_rfl)) rfl ?_
    refine Dr.nil ?_
    refine FinX.done (F' := [(0, _), (1, _), (4, _), (5, _), (15, _), (25, _), (27, _)]) rfl ⟨rfl, rfl, rfl, rfl, rfl, rfl, rfl, trivial⟩ ?_
    intro w2 hw2 fw2
    replace df := df.step hw2
    replace k0 := k0.step hw2
    replace mp := mp.step hw2
    replace fs := fs.step hw2
    replace k4 := k4.step hw2
    refine Seq.store1 rfl rfl rfl (by kernel_rfl) rfl rfl k0 rfl rfl rfl ?_
    intro w3 pw3
    replace df := df.put k0 pw3 e0
    replace mp := mp.put k0 pw3 e0
    replace fs := fs.put k0 pw3 e0
    replace k4 := k4.put pw3 (by omega)
    replace k0 := pw3.blk
    refine Seq.nil ?_
    refine Post.weak (F' := [(0, _), (1, _), (4, _), (5, _), (15, _)]) ⟨rfl, rfl, rfl, rfl, rfl, trivial⟩ ?_
    refine Post.then_ ?_
    refine Cd.region ?_
    refine Seq.val (Runs.move rfl rfl) rfl rfl rfl ?_
    refine Seq.val (Runs.nilCheck rfl rfl) rfl rfl rfl ?_
    refine Seq.val (Runs.fieldB 1 rfl rfl Tryz.underlying77 rfl (by kernel_rfl)) rfl rfl rfl ?_
    refine Seq.val (Runs.loadB rfl rfl Tryz.underlying75 rfl k0 rfl) rfl rfl rfl ?_
    refine Seq.val (Runs.move rfl rfl) rfl rfl rfl ?_
    refine Seq.mapDel0 rfl rfl rfl mp hsm Tryz.underlying75 Tryz.underlying9 rfl rfl ?_
    intro wm pm
    replace df := df.putM hm pm
    replace k0 := k0.putM pm
    replace fs := (fs.putM pm).del nm
    replace mp := pm.mp
    clear pm k4
    refine Seq.nil ?_
    refine Post.weak (F' := [(0, _), (1, _), (4, _), (5, _), (15, _)]) ⟨rfl, rfl, rfl, rfl, rfl, trivial⟩ ?_
    refine Post.end0 rfl (.inr rfl) ?_
    refine ⟨rfl, ⟨?_, mp, hm, fs, ?_, e0, hwok⟩, df⟩
    · have hu2 : (D.wipe nm).used = us - ((F g4).data.length : Int) := by omega
      unfold Dk.cs
      rw [hu2]
      exact k0
    · rw [fsOf_del, ← fl0]; rfl
  · have h : lk l nm = none := by
      have h' : (lk l nm).isSome = false := h
      simpa using h'
    have hn0 : D.get nm = none := by rw [hg, h]; rfl
    have hdel : del l nm = l := by
      unfold del
      rw [List.filter_eq_self]
      intro p hp
      simpa using lk_none_of h p hp
    rw [wipe_none hn0, hdel]
    refine Cd.skip ?_
    refine Post.end0 rfl (.inr rfl) ?_
    exact ⟨rfl, ⟨k0, mp, hm, fs, fl0, e0, ok0⟩, df⟩
/-- Without a file, where it may be. -/
def Dk.delete (D : Dk) (nm : List Nat) : Dk := if D.thereE [nm] nm = 0 then D.tick.wipe nm else D.tick
/-- A file by another name. -/
def Dk.rename (D : Dk) (a b : List Nat) : Dk := if D.thereE [a, b] a ≠ 0 ∨ a = b then D.tick else match D.get a with | some f => { (D.tick.wipe b).wipe a with files := ((D.tick.wipe b).wipe a).files ++ [(b, f)] } | none => D.tick
theorem delete_d_any (B g0 : Nat) (D : Dk) (nm : List Nat) (w : World) (h : DkAt w B g0 D) (hsm : ∀ c ∈ nm, c < 256) (hl : nm.length ≤ 1000000000) :
    Calls Tryz.prog 71 #[.pointer (some ⟨g0, 0, none⟩), .string (strOf nm)] w fun e w' => e = .returned (.int .i64 (D.thereE [nm] nm)) ∧ DkAt w' B g0 (D.delete nm) ∧ Df B w w' := by
  obtain ⟨m, l, F, c1, c2, dk⟩ := h
  have df := Df.refl B w
  refine Calls.start 19 Tryz.func71 rfl rfl rfl ?_
  refine Cd.seq ?_
  refine Cd.region ?_
  refine Seq.val (Runs.assign rfl rfl) rfl rfl rfl ?_
  refine Seq.nil ?_
  refine Post.weak (F' := [(0, _), (1, _), (4, _)]) ⟨rfl, rfl, rfl, trivial⟩ ?_
  refine Post.then_ ?_
  refine Cd.seq ?_
  refine Cd.region ?_
  refine Seq.val (Runs.move rfl rfl) rfl rfl rfl ?_
  refine Seq.val (Runs.move rfl rfl) rfl rfl rfl ?_
  refine Seq.call (Enters.func rfl rfl rfl (run_enter Tryz.func48 (by kernel_rfl) rfl)) rfl rfl rfl (there_any B g0 m D l F c1 c2 nm [] (.slice none 0 0) 0 0 _ dk (Own.nil _ _ _ _) (by simpa using hsm) (by simpa using hl) (by omega)) ?_
  clear dk
  rintro e w1 ⟨rfl, ⟨c3, dk⟩, fw1⟩
  refine ⟨_, rfl, ?_⟩
  replace df := df.df fw1
  refine Seq.val (Runs.move rfl rfl) rfl rfl rfl ?_
  refine Seq.val (Runs.extract rfl rfl rfl) rfl rfl rfl ?_
  refine Seq.val (Runs.extract rfl rfl rfl) rfl rfl rfl ?_
  refine Seq.val (Runs.assign rfl rfl) rfl rfl rfl ?_
  refine Seq.val (Runs.assign rfl rfl) rfl rfl rfl ?_
  refine Seq.nil ?_
  refine Post.weak (F' := [(0, _), (1, _), (4, _), (6, _)]) ⟨rfl, rfl, rfl, rfl, trivial⟩ ?_
  refine Post.then_ ?_
  refine Cd.seq ?_
  refine Cd.seq ?_
  refine Cd.region ?_
  refine Seq.val (Runs.move rfl rfl) rfl rfl rfl ?_
  refine Seq.val (Runs.eqlI rfl rfl rfl) rfl rfl rfl ?_
  refine Seq.nil ?_
  refine Post.weak (F' := [(0, _), (1, _), (4, _), (6, _), (14, _)]) ⟨rfl, rfl, rfl, rfl, rfl, trivial⟩ ?_
  refine Post.then_ ?_
  refine Cd.cond rfl (fun h => ?_) (fun h => ?_)
  · have h : D.thereE [nm] nm = 0 := by simpa using h
    have hS : D.delete nm = D.tick.wipe nm := by unfold Dk.delete; rw [if_pos h]
    rw [hS]
    refine Cd.region ?_
    refine Seq.val (Runs.move rfl rfl) rfl rfl rfl ?_
    refine Seq.val (Runs.move rfl rfl) rfl rfl rfl ?_
    refine Seq.call (Enters.func rfl rfl rfl (run_enter Tryz.func93 (by kernel_rfl) rfl)) rfl rfl rfl (drop_d_any B g0 m D.tick l F c1 c3 nm _ dk hsm) ?_
    clear dk
    rintro e w2 ⟨rfl, dk, fw2⟩
    refine ⟨_, rfl, ?_⟩
    replace df := df.df fw2
    refine Seq.nil ?_
    refine Post.weak (F' := [(0, _), (1, _), (4, _), (6, _), (14, _)]) ⟨rfl, rfl, rfl, rfl, rfl, trivial⟩ ?_
    refine Post.then_ ?_
    refine Cd.seq ?_
    refine Cd.region ?_
    refine Seq.val (Runs.move rfl rfl) rfl rfl rfl ?_
    refine Seq.val (Runs.assign rfl rfl) rfl rfl rfl ?_
    refine Seq.nil ?_
    refine Post.weak (F' := [(0, _), (1, _), (4, _), (6, _), (14, _)]) ⟨rfl, rfl, rfl, rfl, rfl, trivial⟩ ?_
    refine Post.then_ ?_
    refine Cd.ret ?_
    refine Post.end1 rfl rfl (.inl rfl) ?_
    exact ⟨rfl, ⟨m, _, F, c1, c3, dk⟩, df⟩
  · have h : D.thereE [nm] nm ≠ 0 := by simpa using h
    have hS : D.delete nm = D.tick := by unfold Dk.delete; rw [if_neg h]
    rw [hS]
    refine Cd.skip ?_
    refine Post.then_ ?_
    refine Cd.seq ?_
    refine Cd.region ?_
    refine Seq.val (Runs.move rfl rfl) rfl rfl rfl ?_
    refine Seq.val (Runs.assign rfl rfl) rfl rfl rfl ?_
    refine Seq.nil ?_
    refine Post.weak (F' := [(0, _), (1, _), (4, _), (6, _), (14, _)]) ⟨rfl, rfl, rfl, rfl, rfl, trivial⟩ ?_
    refine Post.then_ ?_
    refine Cd.ret ?_
    refine Post.end1 rfl rfl (.inl rfl) ?_
    exact ⟨rfl, ⟨m, l, F, c1, c3, dk⟩, df⟩
theorem rename_ok {D : Dk} {a b : List Nat} {f : Fil} (h : D.ok) (hn : (D.files.map (·.1)).Nodup) (hf : D.get a = some f) (hne : a ≠ b) (hb : ∀ c ∈ b, c < 256) (hb1 : nameOk b = true) : ({ (D.wipe b).wipe a with files := ((D.wipe b).wipe a).files ++ [(b, f)] } : Dk).ok ∧ ({ (D.wipe b).wipe a with files := ((D.wipe b).wipe a).files ++ [(b, f)] } : Dk).used = (D.wipe b).used := by
  have h1 := wipe_ok (nm := b) h hn
  have hn1 : ((D.wipe b).files.map (·.1)).Nodup := hn.sublist (List.Sublist.map _ List.filter_sublist)
  have h2 := wipe_ok (nm := a) h1 hn1
  have hu := wipe_used (nm := a) hn1
  have hg : getL (D.wipe b).files a = f := by
    unfold getL Dk.wipe
    have : (D.files.filter fun p => decide (p.1 ≠ b)).find? (fun p => decide (p.1 = a)) = D.files.find? (fun p => decide (p.1 = a)) := by
      rw [List.find?_filter]
      congr 1
      funext p
      by_cases e : p.1 = a
      · simp [e, hne]
      · simp [e]
    show (((D.files.filter fun p => decide (p.1 ≠ b)).find? (fun p => decide (p.1 = a))).map fun (p : List Nat × Fil) => p.2).getD ⟨[], 0⟩ = f
    rw [this]
    unfold Dk.get at hf
    rw [hf]
    rfl
  have hu2 : ({ (D.wipe b).wipe a with files := ((D.wipe b).wipe a).files ++ [(b, f)] } : Dk).used = (D.wipe b).used := by
    show ((usedL (((D.wipe b).wipe a).files ++ [(b, f)]) : Nat) : Int) = _
    rw [usedL_app]
    have e : (D.wipe b).fileOf a = f := hg
    rw [e] at hu
    have e2 : usedL [(b, f)] = f.data.length := by simp [usedL]
    rw [e2]
    have e3 : ((usedL ((D.wipe b).wipe a).files : Nat) : Int) = ((D.wipe b).wipe a).used := rfl
    omega
  refine ⟨⟨h.room0, h.room1, ?_, h.left0, h.left1, ?_, ?_⟩, hu2⟩
  · rw [hu2]; exact h1.fits
  · intro p hp
    rcases List.mem_append.1 hp with hp | hp
    · exact h2.fil p hp
    · simp at hp
      subst hp
      unfold nameOk at hb1
      rw [Bool.and_eq_true, decide_eq_true_eq, decide_eq_true_eq] at hb1
      exact ⟨(h.fil _ (get_mem hf)).1, hb, hb1.1, hb1.2⟩
  · have h3 : (a, f) ∈ (D.wipe b).files := by
      unfold Dk.wipe
      rw [List.mem_filter]
      exact ⟨get_mem hf, by simpa using hne⟩
    have h4 : ((D.wipe b).wipe a).files.length < (D.wipe b).files.length := by
      show ((D.wipe b).files.filter _).length < _
      rw [List.length_filter_lt_length_iff_exists]
      exact ⟨(a, f), h3, by simp⟩
    have h5 := h1.most
    show (((D.wipe b).wipe a).files ++ [(b, f)]).length ≤ 200
    rw [List.length_append, List.length_singleton]
    omega
set_option maxHeartbeats 2000000 in
theorem rename_d_any (B g0 : Nat) (D : Dk) (a b : List Nat) (w : World) (h : DkAt w B g0 D) (ha : ∀ c ∈ a, c < 256) (hb : ∀ c ∈ b, c < 256) (hal : a.length ≤ 1000000000) (hbl : b.length ≤ 1000000000) :
    Calls Tryz.prog 87 #[.pointer (some ⟨g0, 0, none⟩), .string (strOf a), .string (strOf b)] w fun e w' => e = .returned (.int .i64 (D.thereE [a, b] a)) ∧ DkAt w' B g0 (D.rename a b) ∧ Df B w w' := by
  obtain ⟨m, l, F, c1, c2, dk⟩ := h
  have df := Df.refl B w
  have hm := dk.hm
  refine Calls.start 39 Tryz.func87 rfl rfl rfl ?_
  refine Cd.seq ?_
  refine Cd.region ?_
  refine Seq.val (Runs.assign rfl rfl) rfl rfl rfl ?_
  refine Seq.nil ?_
  refine Post.weak (F' := [(0, _), (1, _), (2, _), (6, _)]) ⟨rfl, rfl, rfl, rfl, trivial⟩ ?_
  refine Post.then_ ?_
  refine Cd.seq ?_
  refine Cd.region ?_
  refine Seq.val (Runs.move rfl rfl) rfl rfl rfl ?_
  refine Seq.val (Runs.move rfl rfl) rfl rfl rfl ?_
  refine Seq.val (Runs.move rfl rfl) rfl rfl rfl ?_
  refine Seq.slice (vs := [_]) (s := 1) rfl rfl rfl Tryz.underlying22 (by kernel_rfl) (zero_string) (by omega) (by omega) ⟨rfl, trivial⟩ rfl rfl rfl ?_
  intro g13 w1 n13
  replace df := df.step n13.below
  replace dk := dk.step n13.below
  have k13 := n13.blk
  have own : Own w1 w.heap.size 9 1 (.slice (some ⟨g13, 0, none⟩) 1 1) 1 (Ts [b]) := Own.of_blk k13 n13.ge rfl (by decide)
  refine Seq.call (Enters.func rfl rfl rfl (run_enter Tryz.func48 (by kernel_rfl) rfl)) rfl rfl rfl (there_any B g0 m D l F c1 c2 a [b] (.slice (some ⟨g13, 0, none⟩) 1 1) _ _ _ dk own (by simpa using ⟨ha, hb⟩) (by simpa using ⟨hal, hbl⟩) (by omega)) ?_
  clear dk
  rintro e w2 ⟨rfl, ⟨c3, dk⟩, fw2⟩
  refine ⟨_, rfl, ?_⟩
  replace df := df.df fw2
  refine Seq.val (Runs.move rfl rfl) rfl rfl rfl ?_
  refine Seq.val (Runs.extract rfl rfl rfl) rfl rfl rfl ?_
  refine Seq.val (Runs.extract rfl rfl rfl) rfl rfl rfl ?_
  refine Seq.val (Runs.assign rfl rfl) rfl rfl rfl ?_
  refine Seq.val (Runs.assign rfl rfl) rfl rfl rfl ?_
  refine Seq.nil ?_
  refine Post.weak (F' := [(0, _), (1, _), (2, _), (6, _), (7, _), (8, _)]) ⟨rfl, rfl, rfl, rfl, rfl, rfl, trivial⟩ ?_
  refine Post.then_ ?_
  refine Cd.seq ?_
  refine Cd.seq ?_
  refine Cd.region ?_
  refine Seq.val (Runs.move rfl rfl) rfl rfl rfl ?_
  refine Seq.val (Runs.neqI rfl rfl rfl) rfl rfl rfl ?_
  refine Seq.val (Runs.move rfl rfl) rfl rfl rfl ?_
  refine SeqC.start ?_
  refine SeqC.open rfl rfl rfl rfl rfl rfl rfl (fun hcx => Runs.move rfl rfl) ?_
  refine SeqC.next rfl rfl rfl rfl rfl rfl rfl (fun hcx => Runs.move rfl rfl) ?_
  refine SeqC.next rfl rfl rfl rfl rfl rfl rfl (fun hcx => Runs.eqlL rfl rfl rfl ha hb) ?_
  refine SeqC.or rfl rfl rfl rfl rfl rfl rfl ?_
  refine Seq.nil ?_
  refine Post.weak (F' := [(0, _), (1, _), (2, _), (6, _), (7, _), (8, _), (23, _)]) ⟨rfl, rfl, rfl, rfl, rfl, rfl, rfl, trivial⟩ ?_
  refine Post.then_ ?_
  refine Cd.cond rfl (fun h => ?_) (fun h => ?_)
  · have h : D.thereE [a, b] a ≠ 0 ∨ a = b := by simpa using h
    have hR : D.rename a b = D.tick := by unfold Dk.rename; rw [if_pos h]
    rw [hR]
    refine Cd.seq ?_
    refine Cd.region ?_
    refine Seq.val (Runs.move rfl rfl) rfl rfl rfl ?_
    refine Seq.val (Runs.assign rfl rfl) rfl rfl rfl ?_
    refine Seq.nil ?_
    refine Post.weak (F' := [(0, _), (1, _), (2, _), (6, _), (7, _), (8, _), (23, _)]) ⟨rfl, rfl, rfl, rfl, rfl, rfl, rfl, trivial⟩ ?_
    refine Post.then_ ?_
    refine Cd.ret ?_
    refine Post.then_ret ?_
    refine Post.end1 rfl rfl (.inl rfl) ?_
    exact ⟨rfl, ⟨m, l, F, c1, c3, dk⟩, df⟩
  have h : D.thereE [a, b] a = 0 ∧ a ≠ b := by simpa using h
  obtain ⟨h0, hab⟩ := h
  obtain ⟨hb0, f, hf⟩ := thereE_zero h0
  have hbok := (beginE_zero hb0).2 b (by simp)
  have hft : D.tick.get a = some f := by
    have : D.tick.get a = D.get a := by unfold Dk.get; rw [tick_files]
    rw [this, hf]
  have hR : D.rename a b = { (D.tick.wipe b).wipe a with files := ((D.tick.wipe b).wipe a).files ++ [(b, f)] } := by
    unfold Dk.rename
    rw [if_neg (by rintro (h | h); exact h h0; exact hab h), hf]
  have hg := get_some dk.fl a
  rw [hft] at hg
  obtain ⟨g7, hg7, hF7⟩ := Option.map_eq_some_iff.1 hg.symm
  rw [h0, if_pos rfl]
  have hv : lkV l a = .pointer (some ⟨g7, 0, none⟩) := by unfold lkV; rw [hg7]; rfl
  have hblk7 := dk.fs.blk _ (lk_mem hg7)
  have hB7 : B ≤ g7 := hblk7.1
  have hnn := dk.mp.nodup
  have hndb := dk.fs.nd
  have okt := dk.ok
  have hndt : (D.tick.files.map (·.1)).Nodup := by rw [dk.fl, fs_names]; exact hnn
  have hrok := rename_ok okt hndt hft hab hb hbok
  rw [hv, hR]
  refine Cd.skip ?_
  refine Post.then_ ?_
  refine Cd.seq ?_
  refine Cd.region ?_
  refine Seq.val (Runs.move rfl rfl) rfl rfl rfl ?_
  refine Seq.val (Runs.move rfl rfl) rfl rfl rfl ?_
  refine Seq.call (Enters.func rfl rfl rfl (run_enter Tryz.func93 (by kernel_rfl) rfl)) rfl rfl rfl (drop_d_any B g0 m D.tick l F c1 c3 b _ dk hb) ?_
  clear dk
  rintro e w3 ⟨rfl, dk, fw3⟩
  refine ⟨_, rfl, ?_⟩
  replace df := df.df fw3
  have k0 := dk.k
  have mp := dk.mp
  have fs := dk.fs
  have fl := dk.fl
  have e0 := dk.hB
  clear dk
  obtain ⟨-, k7⟩ := fs.blk (a, g7) (by unfold del; rw [List.mem_filter]; exact ⟨lk_mem hg7, by simpa using hab⟩)
  rw [show F (a, g7).2 = f from hF7] at k7
  refine Seq.nil ?_
  refine Post.weak (F' := [(0, _), (1, _), (2, _), (6, _), (7, _), (8, _), (23, _)]) ⟨rfl, rfl, rfl, rfl, rfl, rfl, rfl, trivial⟩ ?_
  refine Post.then_ ?_
  refine Cd.seq ?_
  refine Cd.region ?_
  refine Seq.val (Runs.move rfl rfl) rfl rfl rfl ?_
  refine Seq.val (Runs.nilCheck rfl rfl) rfl rfl rfl ?_
  refine Seq.val (Runs.fieldB 1 rfl rfl Tryz.underlying77 rfl (by kernel_rfl)) rfl rfl rfl ?_
  refine Seq.val (Runs.loadB rfl rfl Tryz.underlying75 rfl k0 rfl) rfl rfl rfl ?_
  refine Seq.val (Runs.move rfl rfl) rfl rfl rfl ?_
  refine Seq.mapDel0 rfl rfl rfl mp ha Tryz.underlying75 Tryz.underlying9 rfl rfl ?_
  intro wm pm
  replace df := df.putM hm pm
  replace k0 := k0.putM pm
  replace fs := (fs.putM pm).del a
  replace k7 := k7.putM pm
  replace mp := pm.mp
  clear pm
  refine Seq.nil ?_
  refine Post.weak (F' := [(0, _), (1, _), (2, _), (6, _), (7, _), (8, _), (23, _)]) ⟨rfl, rfl, rfl, rfl, rfl, rfl, rfl, trivial⟩ ?_
  refine Post.then_ ?_
  refine Cd.seq ?_
  refine Cd.region ?_
  refine Seq.val (Runs.move rfl rfl) rfl rfl rfl ?_
  refine Seq.val (Runs.nilCheck rfl rfl) rfl rfl rfl ?_
  refine Seq.val (Runs.fieldB 1 rfl rfl Tryz.underlying77 rfl (by kernel_rfl)) rfl rfl rfl ?_
  refine Seq.val (Runs.loadB rfl rfl Tryz.underlying75 rfl k0 rfl) rfl rfl rfl ?_
  refine Seq.val (Runs.move rfl rfl) rfl rfl rfl ?_
  refine Seq.val (Runs.move rfl rfl) rfl rfl rfl ?_
  refine Seq.mapUpd (b := g7) rfl rfl rfl rfl mp hb Tryz.underlying75 Tryz.underlying9 rfl rfl ?_
  intro wn pn
  replace df := df.putM hm pn
  replace k0 := k0.putM pn
  have fx := (fs.off g7).putM pn
  have hlk : lk (del (del l b) a) b = none := lk_none fun p hp => by
    have h1 := (List.mem_filter.1 hp).1
    have h2 := (List.mem_filter.1 h1).2
    simpa using h2
  have hno7 : ∀ p ∈ del (del l b) a, p.2 ≠ g7 := fun p hp e => by
    have h1 := (List.mem_filter.1 hp).2
    have h2 := (List.mem_filter.1 (List.mem_filter.1 hp).1).1
    have h3 := (mem_one hnn hndb (lk_mem hg7) h2).2 e
    simp [h3] at h1
  have hnn2 : ((del (del l b) a).map (·.1)).Nodup := (hnn.sublist (List.Sublist.map _ List.filter_sublist)).sublist (List.Sublist.map _ List.filter_sublist)
  replace k7 := k7.putM pn
  have fs2 : Fs wn B (upd (del (del l b) a) b g7) (setF F g7 f) := put_blk hnn2 fx hB7 k7 (.inr ⟨hlk, hno7⟩)
  replace mp := pn.mp
  clear pn fs
  refine Seq.nil ?_
  refine Post.weak (F' := [(0, _), (1, _), (2, _), (6, _), (7, _), (8, _), (23, _)]) ⟨rfl, rfl, rfl, rfl, rfl, rfl, rfl, trivial⟩ ?_
  refine Post.then_ ?_
  refine Cd.seq ?_
  refine Cd.region ?_
  refine Seq.val (Runs.assign rfl rfl) rfl rfl rfl ?_
  refine Seq.nil ?_
  refine Post.weak (F' := [(0, _), (1, _), (2, _), (6, _), (7, _), (8, _), (23, _)]) ⟨rfl, rfl, rfl, rfl, rfl, rfl, rfl, trivial⟩ ?_
  refine Post.then_ ?_
  refine Cd.ret ?_
  refine Post.end1 rfl rfl (.inl rfl) ?_
  have hfs : ({ (D.tick.wipe b).wipe a with files := ((D.tick.wipe b).wipe a).files ++ [(b, f)] } : Dk).files = fsOf (upd (del (del l b) a) b g7) (setF F g7 f) := by
    rw [put_fs f hnn2 fx.nd (.inr ⟨hlk, hno7⟩)]
    unfold putL
    rw [find_isSome, hlk, fsOf_del, ← fl]
    rfl
  refine ⟨rfl, ⟨m, _, _, c1, c3, ?_, mp, hm, fs2, hfs, e0, hrok.1⟩, df⟩
  unfold Dk.cs
  rw [hrok.2]
  exact k0
end Go.Proofs.YtnlepoplncjliaaGreatDoor

namespace Go.Proofs.YtnlepoplncjliaaGreatDoor
open Go.RowKit Go.Maps Go.Sort Go.Shelf
def shKeys_ren : Go.Shelf.Ren := ⟨fun | 7 => 52 | 10 => 76 | n => n, fun | 23 => 75 | 26 => 9 | 3 => 88 | 28 => 103 | 0 => 0 | 27 => 102 | 33 => 78 | 4 => 4 | n => n, fun | n => n⟩
theorem shKeys : Go.Proofs.SlLaysZ.n7 Tryz.prog shKeys_ren where
  mixed := by kernel_rfl
  f7 := ⟨ "maps.Keys[map[string]*debenture/disk.file,string,*debenture/disk.file]", by decide, Tryz.func52.trans (congrArg some (by kernel_rfl))⟩
  f10 := ⟨ "maps.Keys[map[string]*debenture/disk.file,string,*debenture/disk.file]$1", by decide, Tryz.func76.trans (congrArg some (by kernel_rfl))⟩
  t0 := Tryz.underlying0
  a0 := Tryz.isAgg0
  z0 := Tryz.sizeOf0
  v0 := Tryz.zeroValue0
  t4 := Tryz.underlying4
  a4 := Tryz.isAgg4
  z4 := Tryz.sizeOf4
  v4 := Tryz.zeroValue4
  t23 := Tryz.underlying75
  a23 := Tryz.isAgg75
  z23 := Tryz.sizeOf75
  v23 := Tryz.zeroValue75
  t26 := Tryz.underlying9
  a26 := Tryz.isAgg9
  z26 := Tryz.sizeOf9
  v26 := Tryz.zeroValue9
  t27 := Tryz.underlying102
  a27 := Tryz.isAgg102
  z27 := Tryz.sizeOf102
  v27 := Tryz.zeroValue102
  t28 := Tryz.underlying103
  a28 := Tryz.isAgg103
  z28 := Tryz.sizeOf103
  v28 := Tryz.zeroValue103
  t33 := Tryz.underlying78
  a33 := Tryz.isAgg78
  z33 := Tryz.sizeOf78
  v33 := Tryz.zeroValue78
def shSorted_ren : Go.Shelf.Ren := ⟨fun | 6 => 51 | 8 => 74 | 9 => 75 | 11 => 101 | 13 => 82 | 12 => 102 | 23 => 119 | 24 => 120 | 14 => 132 | 15 => 133 | 16 => 134 | 17 => 135 | 18 => 136 | 19 => 137 | 20 => 138 | 21 => 139 | 22 => 140 | 25 => 161 | 26 => 149 | 27 => 150 | 28 => 162 | 29 => 163 | 30 => 164 | 31 => 174 | n => n, fun | 26 => 9 | 28 => 103 | 24 => 22 | 0 => 0 | 3 => 3 | 37 => 67 | 48 => 65 | 50 => 97 | 4 => 4 | 40 => 159 | 39 => 158 | 45 => 94 | 5 => 5 | 9 => 9 | 51 => 189 | 55 => 192 | 57 => 210 | 58 => 211 | 33 => 78 | n => n, fun | n => n⟩
theorem shSorted : Go.Proofs.SlLaysZ.n6 Tryz.prog shSorted_ren where
  mixed := by kernel_rfl
  f6 := ⟨ "slices.Sorted[string]", by decide, Tryz.func51.trans (congrArg some (by kernel_rfl))⟩
  f8 := ⟨ "slices.Collect[string]", by decide, Tryz.func74.trans (congrArg some (by kernel_rfl))⟩
  f11 := ⟨ "slices.AppendSeq[[]string,string]", by decide, Tryz.func101.trans (congrArg some (by kernel_rfl))⟩
  t0 := Tryz.underlying0
  a0 := Tryz.isAgg0
  z0 := Tryz.sizeOf0
  v0 := Tryz.zeroValue0
  t24 := Tryz.underlying22
  a24 := Tryz.isAgg22
  z24 := Tryz.sizeOf22
  v24 := Tryz.zeroValue22
  t26 := Tryz.underlying9
  a26 := Tryz.isAgg9
  z26 := Tryz.sizeOf9
  v26 := Tryz.zeroValue9
  t28 := Tryz.underlying103
  a28 := Tryz.isAgg103
  z28 := Tryz.sizeOf103
  v28 := Tryz.zeroValue103
  i26 := by kernel_rfl
def shSortS_ren : Go.Shelf.Ren := ⟨fun | 6 => 75 | 8 => 82 | 9 => 102 | 19 => 119 | 20 => 120 | 21 => 132 | 22 => 133 | 23 => 134 | 24 => 135 | 25 => 136 | 26 => 137 | 27 => 138 | 28 => 139 | 29 => 140 | 36 => 161 | 31 => 149 | 32 => 150 | 37 => 162 | 38 => 163 | 39 => 164 | 41 => 174 | n => n, fun | 27 => 22 | 29 => 9 | 3 => 3 | 32 => 67 | 26 => 22 | 0 => 0 | 44 => 65 | 46 => 97 | 4 => 4 | 36 => 159 | 35 => 158 | 41 => 94 | 5 => 5 | 9 => 9 | 53 => 189 | 57 => 192 | 63 => 210 | 64 => 211 | n => n, fun | n => n⟩
theorem shSortS : Go.Proofs.SlLaysM.n6 Tryz.prog shSortS_ren where
  mixed := by kernel_rfl
  f6 := ⟨ "slices.Sort[[]string,string]", by decide, Tryz.func75.trans (congrArg some (by kernel_rfl))⟩
  f8 := Tryz.func82.trans (congrArg some (by kernel_rfl))
  f9 := ⟨ "slices.pdqsortOrdered[string]", by decide, Tryz.func102.trans (congrArg some (by kernel_rfl))⟩
  f19 := Tryz.func119.trans (congrArg some (by kernel_rfl))
  f20 := Tryz.func120.trans (congrArg some (by kernel_rfl))
  f21 := ⟨ "slices.insertionSortOrdered[string]", by decide, Tryz.func132.trans (congrArg some (by kernel_rfl))⟩
  f22 := ⟨ "slices.heapSortOrdered[string]", by decide, Tryz.func133.trans (congrArg some (by kernel_rfl))⟩
  f23 := ⟨ "slices.breakPatternsOrdered[string]", by decide, Tryz.func134.trans (congrArg some (by kernel_rfl))⟩
  f24 := ⟨ "slices.choosePivotOrdered[string]", by decide, Tryz.func135.trans (congrArg some (by kernel_rfl))⟩
  f25 := ⟨ "slices.reverseRangeOrdered[string]", by decide, Tryz.func136.trans (congrArg some (by kernel_rfl))⟩
  f26 := ⟨ "slices.partialInsertionSortOrdered[string]", by decide, Tryz.func137.trans (congrArg some (by kernel_rfl))⟩
  f27 := ⟨ "cmp.Less[string]", by decide, Tryz.func138.trans (congrArg some (by kernel_rfl))⟩
  f28 := ⟨ "slices.partitionEqualOrdered[string]", by decide, Tryz.func139.trans (congrArg some (by kernel_rfl))⟩
  f29 := ⟨ "slices.partitionOrdered[string]", by decide, Tryz.func140.trans (congrArg some (by kernel_rfl))⟩
  f31 := Tryz.func149.trans (congrArg some (by kernel_rfl))
  f32 := Tryz.func150.trans (congrArg some (by kernel_rfl))
  f36 := ⟨ "slices.siftDownOrdered[string]", by decide, Tryz.func161.trans (congrArg some (by kernel_rfl))⟩
  f37 := ⟨ "slices.medianAdjacentOrdered[string]", by decide, Tryz.func162.trans (congrArg some (by kernel_rfl))⟩
  f38 := ⟨ "slices.medianOrdered[string]", by decide, Tryz.func163.trans (congrArg some (by kernel_rfl))⟩
  f39 := ⟨ "cmp.isNaN[string]", by decide, Tryz.func164.trans (congrArg some (by kernel_rfl))⟩
  f41 := ⟨ "slices.order2Ordered[string]", by decide, Tryz.func174.trans (congrArg some (by kernel_rfl))⟩
  t0 := Tryz.underlying0
  a0 := Tryz.isAgg0
  z0 := Tryz.sizeOf0
  v0 := Tryz.zeroValue0
  t3 := Tryz.underlying3
  a3 := Tryz.isAgg3
  z3 := Tryz.sizeOf3
  v3 := Tryz.zeroValue3
  t4 := Tryz.underlying4
  a4 := Tryz.isAgg4
  z4 := Tryz.sizeOf4
  v4 := Tryz.zeroValue4
  t5 := Tryz.underlying5
  a5 := Tryz.isAgg5
  z5 := Tryz.sizeOf5
  v5 := Tryz.zeroValue5
  t9 := Tryz.underlying9
  a9 := Tryz.isAgg9
  z9 := Tryz.sizeOf9
  v9 := Tryz.zeroValue9
  t26 := Tryz.underlying22
  a26 := Tryz.isAgg22
  z26 := Tryz.sizeOf22
  v26 := Tryz.zeroValue22
  t27 := Tryz.underlying22
  a27 := Tryz.isAgg22
  z27 := Tryz.sizeOf22
  v27 := Tryz.zeroValue22
  t29 := Tryz.underlying9
  a29 := Tryz.isAgg9
  z29 := Tryz.sizeOf9
  v29 := Tryz.zeroValue9
  t32 := Tryz.underlying67
  a32 := Tryz.isAgg67
  z32 := Tryz.sizeOf67
  v32 := Tryz.zeroValue67
  t35 := Tryz.underlying158
  a35 := Tryz.isAgg158
  z35 := Tryz.sizeOf158
  v35 := Tryz.zeroValue158
  t36 := Tryz.underlying159
  a36 := Tryz.isAgg159
  z36 := Tryz.sizeOf159
  v36 := Tryz.zeroValue159
  t41 := Tryz.underlying94
  a41 := Tryz.isAgg94
  z41 := Tryz.sizeOf94
  v41 := Tryz.zeroValue94
  t44 := Tryz.underlying65
  a44 := Tryz.isAgg65
  z44 := Tryz.sizeOf65
  v44 := Tryz.zeroValue65
  t46 := Tryz.underlying97
  a46 := Tryz.isAgg97
  z46 := Tryz.sizeOf97
  v46 := Tryz.zeroValue97
  t53 := Tryz.underlying189
  a53 := Tryz.isAgg189
  z53 := Tryz.sizeOf189
  v53 := Tryz.zeroValue189
  t57 := Tryz.underlying192
  a57 := Tryz.isAgg192
  z57 := Tryz.sizeOf192
  v57 := Tryz.zeroValue192
  t63 := Tryz.underlying210
  a63 := Tryz.isAgg210
  z63 := Tryz.sizeOf210
  v63 := Tryz.zeroValue210
  t64 := Tryz.underlying211
  a64 := Tryz.isAgg211
  z64 := Tryz.sizeOf211
  v64 := Tryz.zeroValue211
def shCutP_ren : Go.Shelf.Ren := ⟨fun | 103 => 54 | 210 => 77 | 206 => 103 | n => n, fun | 9 => 9 | 4 => 4 | 24 => 85 | 3 => 3 | n => n, fun | n => n⟩
theorem shCutP : Go.Proofs.Lays.n103 Tryz.prog shCutP_ren where
  mixed := by kernel_rfl
  f103 := Tryz.func54.trans (congrArg some (by kernel_rfl))
  f206 := Tryz.func103.trans (congrArg some (by kernel_rfl))
  f210 := Tryz.func77.trans (congrArg some (by kernel_rfl))
  t3 := Tryz.underlying3
  a3 := Tryz.isAgg3
  z3 := Tryz.sizeOf3
  v3 := Tryz.zeroValue3
  t4 := Tryz.underlying4
  a4 := Tryz.isAgg4
  z4 := Tryz.sizeOf4
  v4 := Tryz.zeroValue4
  t9 := Tryz.underlying9
  a9 := Tryz.isAgg9
  z9 := Tryz.sizeOf9
  v9 := Tryz.zeroValue9
  t24 := Tryz.underlying85
  a24 := Tryz.isAgg85
  z24 := Tryz.sizeOf85
  v24 := Tryz.zeroValue85
def shItoa_ren : Go.Shelf.Ren := ⟨fun | 171 => 72 | 243 => 94 | 246 => 127 | 283 => 155 | 284 => 156 | 285 => 157 | 286 => 158 | 129 => 120 | 317 => 170 | 318 => 171 | 319 => 172 | 320 => 173 | 337 => 175 | 338 => 176 | n => n, fun | 3 => 3 | 9 => 9 | 2 => 2 | 4 => 4 | 171 => 196 | 0 => 0 | 53 => 97 | 37 => 60 | 5 => 5 | 173 => 198 | 212 => 214 | 51 => 65 | 20 => 20 | 213 => 215 | 46 => 67 | 232 => 217 | 233 => 218 | n => n, fun | 17 => 4 | 18 => 5 | 19 => 6 | n => n⟩
theorem shItoa : Go.Proofs.LaysM.n171 Tryz.prog shItoa_ren where
  mixed := by kernel_rfl
  f129 := Tryz.func120.trans (congrArg some (by kernel_rfl))
  f171 := Tryz.func72.trans (congrArg some (by kernel_rfl))
  f243 := Tryz.func94.trans (congrArg some (by kernel_rfl))
  f246 := Tryz.func127.trans (congrArg some (by kernel_rfl))
  f283 := Tryz.func155.trans (congrArg some (by kernel_rfl))
  f284 := Tryz.func156.trans (congrArg some (by kernel_rfl))
  f285 := Tryz.func157.trans (congrArg some (by kernel_rfl))
  f286 := Tryz.func158.trans (congrArg some (by kernel_rfl))
  f317 := Tryz.func170.trans (congrArg some (by kernel_rfl))
  f318 := Tryz.func171.trans (congrArg some (by kernel_rfl))
  f319 := Tryz.func172.trans (congrArg some (by kernel_rfl))
  f320 := Tryz.func173.trans (congrArg some (by kernel_rfl))
  f337 := Tryz.func175.trans (congrArg some (by kernel_rfl))
  f338 := Tryz.func176.trans (congrArg some (by kernel_rfl))
  t0 := Tryz.underlying0
  a0 := Tryz.isAgg0
  z0 := Tryz.sizeOf0
  v0 := Tryz.zeroValue0
  t2 := Tryz.underlying2
  a2 := Tryz.isAgg2
  z2 := Tryz.sizeOf2
  v2 := Tryz.zeroValue2
  t3 := Tryz.underlying3
  a3 := Tryz.isAgg3
  z3 := Tryz.sizeOf3
  v3 := Tryz.zeroValue3
  t4 := Tryz.underlying4
  a4 := Tryz.isAgg4
  z4 := Tryz.sizeOf4
  v4 := Tryz.zeroValue4
  t5 := Tryz.underlying5
  a5 := Tryz.isAgg5
  z5 := Tryz.sizeOf5
  v5 := Tryz.zeroValue5
  t9 := Tryz.underlying9
  a9 := Tryz.isAgg9
  z9 := Tryz.sizeOf9
  v9 := Tryz.zeroValue9
  t20 := Tryz.underlying20
  a20 := Tryz.isAgg20
  z20 := Tryz.sizeOf20
  v20 := Tryz.zeroValue20
  t37 := Tryz.underlying60
  a37 := Tryz.isAgg60
  z37 := Tryz.sizeOf60
  v37 := Tryz.zeroValue60
  t46 := Tryz.underlying67
  a46 := Tryz.isAgg67
  z46 := Tryz.sizeOf67
  v46 := Tryz.zeroValue67
  t51 := Tryz.underlying65
  a51 := Tryz.isAgg65
  z51 := Tryz.sizeOf65
  v51 := Tryz.zeroValue65
  t53 := Tryz.underlying97
  a53 := Tryz.isAgg97
  z53 := Tryz.sizeOf97
  v53 := Tryz.zeroValue97
  t171 := Tryz.underlying196
  a171 := Tryz.isAgg196
  z171 := Tryz.sizeOf196
  v171 := Tryz.zeroValue196
  t173 := Tryz.underlying198
  a173 := Tryz.isAgg198
  z173 := Tryz.sizeOf198
  v173 := Tryz.zeroValue198
  t212 := Tryz.underlying214
  a212 := Tryz.isAgg214
  z212 := Tryz.sizeOf214
  v212 := Tryz.zeroValue214
  t213 := Tryz.underlying215
  a213 := Tryz.isAgg215
  z213 := Tryz.sizeOf215
  t232 := Tryz.underlying217
  a232 := Tryz.isAgg217
  z232 := Tryz.sizeOf217
  v232 := Tryz.zeroValue217
  t233 := Tryz.underlying218
  a233 := Tryz.isAgg218
  z233 := Tryz.sizeOf218
  v233 := Tryz.zeroValue218
  g17 := by kernel_rfl
  g18 := by kernel_rfl
  g19 := by kernel_rfl
  i0 := by kernel_rfl
  i2 := by kernel_rfl
  i3 := by kernel_rfl
  i4 := by kernel_rfl
  i5 := by kernel_rfl
  i9 := by kernel_rfl
  i20 := by kernel_rfl
  i37 := by kernel_rfl
  i46 := by kernel_rfl
  i51 := by kernel_rfl
  i53 := by kernel_rfl
  i171 := by kernel_rfl
  i173 := by kernel_rfl
  i212 := by kernel_rfl
  i232 := by kernel_rfl
  i233 := by kernel_rfl
  m17 := by kernel_rfl
  m18 := by kernel_rfl
  m19 := by kernel_rfl
def shAtoi_ren : Go.Shelf.Ren := ⟨fun | 172 => 56 | 244 => 79 | 245 => 80 | 247 => 105 | 279 => 106 | 280 => 107 | 281 => 108 | 282 => 109 | 287 => 145 | 316 => 146 | 171 => 72 | 205 => 147 | 321 => 167 | 322 => 168 | 243 => 94 | 246 => 127 | 283 => 155 | 284 => 156 | 285 => 157 | 286 => 158 | 129 => 120 | 317 => 170 | 318 => 171 | 319 => 172 | 320 => 173 | 337 => 175 | 338 => 176 | n => n, fun | 9 => 9 | 3 => 3 | 75 => 112 | 76 => 113 | 4 => 4 | 5 => 5 | 167 => 151 | 37 => 60 | 0 => 0 | 85 => 152 | 2 => 2 | 168 => 154 | 53 => 97 | 175 => 184 | 46 => 67 | 210 => 187 | 127 => 177 | 145 => 209 | 143 => 207 | 21 => 21 | 171 => 196 | 173 => 198 | 212 => 214 | 51 => 65 | 20 => 20 | 213 => 215 | 232 => 217 | 233 => 218 | 80 => 123 | n => n, fun | 15 => 1 | 16 => 2 | 17 => 4 | 18 => 5 | 19 => 6 | n => n⟩
theorem shAtoi : Go.Proofs.Lays.n172 Tryz.prog shAtoi_ren where
  mixed := by kernel_rfl
  f129 := Tryz.func120.trans (congrArg some (by kernel_rfl))
  f171 := Tryz.func72.trans (congrArg some (by kernel_rfl))
  f172 := Tryz.func56.trans (congrArg some (by kernel_rfl))
  f205 := Tryz.func147.trans (congrArg some (by kernel_rfl))
  f243 := Tryz.func94.trans (congrArg some (by kernel_rfl))
  f244 := Tryz.func79.trans (congrArg some (by kernel_rfl))
  f245 := Tryz.func80.trans (congrArg some (by kernel_rfl))
  f246 := Tryz.func127.trans (congrArg some (by kernel_rfl))
  f247 := Tryz.func105.trans (congrArg some (by kernel_rfl))
  f279 := Tryz.func106.trans (congrArg some (by kernel_rfl))
  f280 := Tryz.func107.trans (congrArg some (by kernel_rfl))
  f281 := Tryz.func108.trans (congrArg some (by kernel_rfl))
  f282 := Tryz.func109.trans (congrArg some (by kernel_rfl))
  f283 := Tryz.func155.trans (congrArg some (by kernel_rfl))
  f284 := Tryz.func156.trans (congrArg some (by kernel_rfl))
  f285 := Tryz.func157.trans (congrArg some (by kernel_rfl))
  f286 := Tryz.func158.trans (congrArg some (by kernel_rfl))
  f287 := Tryz.func145.trans (congrArg some (by kernel_rfl))
  f316 := Tryz.func146.trans (congrArg some (by kernel_rfl))
  f317 := Tryz.func170.trans (congrArg some (by kernel_rfl))
  f318 := Tryz.func171.trans (congrArg some (by kernel_rfl))
  f319 := Tryz.func172.trans (congrArg some (by kernel_rfl))
  f320 := Tryz.func173.trans (congrArg some (by kernel_rfl))
  f321 := Tryz.func167.trans (congrArg some (by kernel_rfl))
  f322 := Tryz.func168.trans (congrArg some (by kernel_rfl))
  f337 := Tryz.func175.trans (congrArg some (by kernel_rfl))
  f338 := Tryz.func176.trans (congrArg some (by kernel_rfl))
  t0 := Tryz.underlying0
  a0 := Tryz.isAgg0
  z0 := Tryz.sizeOf0
  v0 := Tryz.zeroValue0
  t2 := Tryz.underlying2
  a2 := Tryz.isAgg2
  z2 := Tryz.sizeOf2
  v2 := Tryz.zeroValue2
  t3 := Tryz.underlying3
  a3 := Tryz.isAgg3
  z3 := Tryz.sizeOf3
  v3 := Tryz.zeroValue3
  t4 := Tryz.underlying4
  a4 := Tryz.isAgg4
  z4 := Tryz.sizeOf4
  v4 := Tryz.zeroValue4
  t5 := Tryz.underlying5
  a5 := Tryz.isAgg5
  z5 := Tryz.sizeOf5
  v5 := Tryz.zeroValue5
  t9 := Tryz.underlying9
  a9 := Tryz.isAgg9
  z9 := Tryz.sizeOf9
  v9 := Tryz.zeroValue9
  t20 := Tryz.underlying20
  a20 := Tryz.isAgg20
  z20 := Tryz.sizeOf20
  v20 := Tryz.zeroValue20
  t21 := Tryz.underlying21
  a21 := Tryz.isAgg21
  z21 := Tryz.sizeOf21
  v21 := Tryz.zeroValue21
  t37 := Tryz.underlying60
  a37 := Tryz.isAgg60
  z37 := Tryz.sizeOf60
  v37 := Tryz.zeroValue60
  t46 := Tryz.underlying67
  a46 := Tryz.isAgg67
  z46 := Tryz.sizeOf67
  v46 := Tryz.zeroValue67
  t51 := Tryz.underlying65
  a51 := Tryz.isAgg65
  z51 := Tryz.sizeOf65
  v51 := Tryz.zeroValue65
  t53 := Tryz.underlying97
  a53 := Tryz.isAgg97
  z53 := Tryz.sizeOf97
  v53 := Tryz.zeroValue97
  t75 := Tryz.underlying112
  a75 := Tryz.isAgg112
  z75 := Tryz.sizeOf112
  v75 := Tryz.zeroValue112
  t76 := Tryz.underlying113
  a76 := Tryz.isAgg113
  z76 := Tryz.sizeOf113
  v76 := Tryz.zeroValue113
  t85 := Tryz.underlying152
  a85 := Tryz.isAgg152
  z85 := Tryz.sizeOf152
  v85 := Tryz.zeroValue152
  t127 := Tryz.underlying177
  a127 := Tryz.isAgg177
  z127 := Tryz.sizeOf177
  v127 := Tryz.zeroValue177
  t143 := Tryz.underlying207
  a143 := Tryz.isAgg207
  z143 := Tryz.sizeOf207
  v143 := Tryz.zeroValue207
  t145 := Tryz.underlying209
  a145 := Tryz.isAgg209
  z145 := Tryz.sizeOf209
  v145 := Tryz.zeroValue209
  t167 := Tryz.underlying151
  a167 := Tryz.isAgg151
  z167 := Tryz.sizeOf151
  v167 := Tryz.zeroValue151
  t168 := Tryz.underlying154
  a168 := Tryz.isAgg154
  z168 := Tryz.sizeOf154
  v168 := Tryz.zeroValue154
  t171 := Tryz.underlying196
  a171 := Tryz.isAgg196
  z171 := Tryz.sizeOf196
  v171 := Tryz.zeroValue196
  t173 := Tryz.underlying198
  a173 := Tryz.isAgg198
  z173 := Tryz.sizeOf198
  v173 := Tryz.zeroValue198
  t175 := Tryz.underlying184
  a175 := Tryz.isAgg184
  z175 := Tryz.sizeOf184
  v175 := Tryz.zeroValue184
  t210 := Tryz.underlying187
  a210 := Tryz.isAgg187
  z210 := Tryz.sizeOf187
  v210 := Tryz.zeroValue187
  t212 := Tryz.underlying214
  a212 := Tryz.isAgg214
  z212 := Tryz.sizeOf214
  v212 := Tryz.zeroValue214
  t213 := Tryz.underlying215
  a213 := Tryz.isAgg215
  z213 := Tryz.sizeOf215
  t232 := Tryz.underlying217
  a232 := Tryz.isAgg217
  z232 := Tryz.sizeOf217
  v232 := Tryz.zeroValue217
  t233 := Tryz.underlying218
  a233 := Tryz.isAgg218
  z233 := Tryz.sizeOf218
  v233 := Tryz.zeroValue218
  g15 := by kernel_rfl
  g16 := by kernel_rfl
  g17 := by kernel_rfl
  g18 := by kernel_rfl
  g19 := by kernel_rfl
def shCut_ren : Go.Shelf.Ren := ⟨fun | 145 => 55 | 220 => 78 | 219 => 104 | 217 => 141 | 225 => 142 | 224 => 143 | 267 => 144 | 266 => 165 | 314 => 166 | n => n, fun | 9 => 9 | 4 => 4 | 59 => 109 | 3 => 3 | 5 => 5 | 46 => 67 | 146 => 173 | 51 => 65 | n => n, fun | 1 => 0 | n => n⟩
theorem shCut : Go.Proofs.Lays.n145 Tryz.prog shCut_ren where
  mixed := by kernel_rfl
  f145 := Tryz.func55.trans (congrArg some (by kernel_rfl))
  f217 := Tryz.func141.trans (congrArg some (by kernel_rfl))
  f219 := Tryz.func104.trans (congrArg some (by kernel_rfl))
  f220 := Tryz.func78.trans (congrArg some (by kernel_rfl))
  f224 := Tryz.func143.trans (congrArg some (by kernel_rfl))
  f225 := Tryz.func142.trans (congrArg some (by kernel_rfl))
  f266 := Tryz.func165.trans (congrArg some (by kernel_rfl))
  f267 := Tryz.func144.trans (congrArg some (by kernel_rfl))
  f314 := Tryz.func166.trans (congrArg some (by kernel_rfl))
  t3 := Tryz.underlying3
  a3 := Tryz.isAgg3
  z3 := Tryz.sizeOf3
  v3 := Tryz.zeroValue3
  t4 := Tryz.underlying4
  a4 := Tryz.isAgg4
  z4 := Tryz.sizeOf4
  v4 := Tryz.zeroValue4
  t5 := Tryz.underlying5
  a5 := Tryz.isAgg5
  z5 := Tryz.sizeOf5
  v5 := Tryz.zeroValue5
  t9 := Tryz.underlying9
  a9 := Tryz.isAgg9
  z9 := Tryz.sizeOf9
  v9 := Tryz.zeroValue9
  t46 := Tryz.underlying67
  a46 := Tryz.isAgg67
  z46 := Tryz.sizeOf67
  v46 := Tryz.zeroValue67
  t51 := Tryz.underlying65
  a51 := Tryz.isAgg65
  z51 := Tryz.sizeOf65
  v51 := Tryz.zeroValue65
  t59 := Tryz.underlying109
  a59 := Tryz.isAgg109
  z59 := Tryz.sizeOf109
  v59 := Tryz.zeroValue109
  t146 := Tryz.underlying173
  a146 := Tryz.isAgg173
  z146 := Tryz.sizeOf173
  v146 := Tryz.zeroValue173
  g1 := by kernel_rfl
def shSortI_ren : Go.Shelf.Ren := ⟨fun | 189 => 57 | 125 => 82 | 257 => 81 | 128 => 119 | 129 => 120 | 294 => 110 | 295 => 111 | 296 => 112 | 297 => 113 | 298 => 114 | 299 => 115 | 216 => 116 | 300 => 117 | 301 => 118 | 328 => 148 | 329 => 149 | 330 => 150 | 331 => 151 | 332 => 152 | 215 => 153 | 343 => 169 | n => n, fun | 28 => 81 | 3 => 3 | 46 => 67 | 0 => 0 | 51 => 65 | 53 => 97 | 4 => 4 | 183 => 159 | 182 => 158 | 131 => 94 | 5 => 5 | 9 => 9 | 218 => 189 | 222 => 192 | 228 => 210 | 229 => 211 | n => n, fun | n => n⟩
theorem shSortI : Go.Proofs.Lays.n189 Tryz.prog shSortI_ren where
  mixed := by kernel_rfl
  f125 := Tryz.func82.trans (congrArg some (by kernel_rfl))
  f128 := Tryz.func119.trans (congrArg some (by kernel_rfl))
  f129 := Tryz.func120.trans (congrArg some (by kernel_rfl))
  f189 := Tryz.func57.trans (congrArg some (by kernel_rfl))
  f215 := Tryz.func153.trans (congrArg some (by kernel_rfl))
  f216 := Tryz.func116.trans (congrArg some (by kernel_rfl))
  f257 := Tryz.func81.trans (congrArg some (by kernel_rfl))
  f294 := Tryz.func110.trans (congrArg some (by kernel_rfl))
  f295 := Tryz.func111.trans (congrArg some (by kernel_rfl))
  f296 := Tryz.func112.trans (congrArg some (by kernel_rfl))
  f297 := Tryz.func113.trans (congrArg some (by kernel_rfl))
  f298 := Tryz.func114.trans (congrArg some (by kernel_rfl))
  f299 := Tryz.func115.trans (congrArg some (by kernel_rfl))
  f300 := Tryz.func117.trans (congrArg some (by kernel_rfl))
  f301 := Tryz.func118.trans (congrArg some (by kernel_rfl))
  f328 := Tryz.func148.trans (congrArg some (by kernel_rfl))
  f329 := Tryz.func149.trans (congrArg some (by kernel_rfl))
  f330 := Tryz.func150.trans (congrArg some (by kernel_rfl))
  f331 := Tryz.func151.trans (congrArg some (by kernel_rfl))
  f332 := Tryz.func152.trans (congrArg some (by kernel_rfl))
  f343 := Tryz.func169.trans (congrArg some (by kernel_rfl))
  t0 := Tryz.underlying0
  a0 := Tryz.isAgg0
  z0 := Tryz.sizeOf0
  v0 := Tryz.zeroValue0
  t3 := Tryz.underlying3
  a3 := Tryz.isAgg3
  z3 := Tryz.sizeOf3
  v3 := Tryz.zeroValue3
  t4 := Tryz.underlying4
  a4 := Tryz.isAgg4
  z4 := Tryz.sizeOf4
  v4 := Tryz.zeroValue4
  t5 := Tryz.underlying5
  a5 := Tryz.isAgg5
  z5 := Tryz.sizeOf5
  v5 := Tryz.zeroValue5
  t9 := Tryz.underlying9
  a9 := Tryz.isAgg9
  z9 := Tryz.sizeOf9
  v9 := Tryz.zeroValue9
  t28 := Tryz.underlying81
  a28 := Tryz.isAgg81
  z28 := Tryz.sizeOf81
  v28 := Tryz.zeroValue81
  t46 := Tryz.underlying67
  a46 := Tryz.isAgg67
  z46 := Tryz.sizeOf67
  v46 := Tryz.zeroValue67
  t51 := Tryz.underlying65
  a51 := Tryz.isAgg65
  z51 := Tryz.sizeOf65
  v51 := Tryz.zeroValue65
  t53 := Tryz.underlying97
  a53 := Tryz.isAgg97
  z53 := Tryz.sizeOf97
  v53 := Tryz.zeroValue97
  t131 := Tryz.underlying94
  a131 := Tryz.isAgg94
  z131 := Tryz.sizeOf94
  v131 := Tryz.zeroValue94
  t182 := Tryz.underlying158
  a182 := Tryz.isAgg158
  z182 := Tryz.sizeOf158
  v182 := Tryz.zeroValue158
  t183 := Tryz.underlying159
  a183 := Tryz.isAgg159
  z183 := Tryz.sizeOf159
  v183 := Tryz.zeroValue159
  t218 := Tryz.underlying189
  a218 := Tryz.isAgg189
  z218 := Tryz.sizeOf189
  v218 := Tryz.zeroValue189
  t222 := Tryz.underlying192
  a222 := Tryz.isAgg192
  z222 := Tryz.sizeOf192
  v222 := Tryz.zeroValue192
  t228 := Tryz.underlying210
  a228 := Tryz.isAgg210
  z228 := Tryz.sizeOf210
  v228 := Tryz.zeroValue210
  t229 := Tryz.underlying211
  a229 := Tryz.isAgg211
  z229 := Tryz.sizeOf211
  v229 := Tryz.zeroValue211
def shRep_ren : Go.Shelf.Ren := ⟨fun | 105 => 73 | 212 => 95 | 99 => 96 | 165 => 97 | 166 => 98 | 170 => 99 | 169 => 100 | 263 => 128 | 264 => 129 | 206 => 103 | 240 => 130 | 241 => 131 | 276 => 159 | 277 => 160 | n => n, fun | 9 => 9 | 3 => 3 | 4 => 4 | 20 => 20 | 0 => 0 | 46 => 67 | 109 => 142 | 5 => 5 | 72 => 147 | 76 => 113 | 51 => 65 | 146 => 173 | 53 => 97 | 148 => 175 | 70 => 145 | 37 => 60 | 75 => 112 | 127 => 177 | 164 => 200 | 80 => 123 | n => n, fun | n => n⟩
theorem shRep : Go.Proofs.Lays.n105 Tryz.prog shRep_ren where
  mixed := by kernel_rfl
  f99 := Tryz.func96.trans (congrArg some (by kernel_rfl))
  f105 := Tryz.func73.trans (congrArg some (by kernel_rfl))
  f165 := Tryz.func97.trans (congrArg some (by kernel_rfl))
  f166 := Tryz.func98.trans (congrArg some (by kernel_rfl))
  f169 := Tryz.func100.trans (congrArg some (by kernel_rfl))
  f170 := Tryz.func99.trans (congrArg some (by kernel_rfl))
  f206 := Tryz.func103.trans (congrArg some (by kernel_rfl))
  f212 := Tryz.func95.trans (congrArg some (by kernel_rfl))
  f240 := Tryz.func130.trans (congrArg some (by kernel_rfl))
  f241 := Tryz.func131.trans (congrArg some (by kernel_rfl))
  f263 := Tryz.func128.trans (congrArg some (by kernel_rfl))
  f264 := Tryz.func129.trans (congrArg some (by kernel_rfl))
  f276 := Tryz.func159.trans (congrArg some (by kernel_rfl))
  f277 := Tryz.func160.trans (congrArg some (by kernel_rfl))
  t0 := Tryz.underlying0
  a0 := Tryz.isAgg0
  z0 := Tryz.sizeOf0
  v0 := Tryz.zeroValue0
  t3 := Tryz.underlying3
  a3 := Tryz.isAgg3
  z3 := Tryz.sizeOf3
  v3 := Tryz.zeroValue3
  t4 := Tryz.underlying4
  a4 := Tryz.isAgg4
  z4 := Tryz.sizeOf4
  v4 := Tryz.zeroValue4
  t5 := Tryz.underlying5
  a5 := Tryz.isAgg5
  z5 := Tryz.sizeOf5
  v5 := Tryz.zeroValue5
  t9 := Tryz.underlying9
  a9 := Tryz.isAgg9
  z9 := Tryz.sizeOf9
  v9 := Tryz.zeroValue9
  t20 := Tryz.underlying20
  a20 := Tryz.isAgg20
  z20 := Tryz.sizeOf20
  v20 := Tryz.zeroValue20
  t37 := Tryz.underlying60
  a37 := Tryz.isAgg60
  z37 := Tryz.sizeOf60
  v37 := Tryz.zeroValue60
  t46 := Tryz.underlying67
  a46 := Tryz.isAgg67
  z46 := Tryz.sizeOf67
  v46 := Tryz.zeroValue67
  t51 := Tryz.underlying65
  a51 := Tryz.isAgg65
  z51 := Tryz.sizeOf65
  v51 := Tryz.zeroValue65
  t53 := Tryz.underlying97
  a53 := Tryz.isAgg97
  z53 := Tryz.sizeOf97
  v53 := Tryz.zeroValue97
  t70 := Tryz.underlying145
  a70 := Tryz.isAgg145
  z70 := Tryz.sizeOf145
  v70 := Tryz.zeroValue145
  t72 := Tryz.underlying147
  a72 := Tryz.isAgg147
  z72 := Tryz.sizeOf147
  v72 := Tryz.zeroValue147
  t75 := Tryz.underlying112
  a75 := Tryz.isAgg112
  z75 := Tryz.sizeOf112
  v75 := Tryz.zeroValue112
  t76 := Tryz.underlying113
  a76 := Tryz.isAgg113
  z76 := Tryz.sizeOf113
  v76 := Tryz.zeroValue113
  t109 := Tryz.underlying142
  a109 := Tryz.isAgg142
  z109 := Tryz.sizeOf142
  v109 := Tryz.zeroValue142
  t127 := Tryz.underlying177
  a127 := Tryz.isAgg177
  z127 := Tryz.sizeOf177
  v127 := Tryz.zeroValue177
  t146 := Tryz.underlying173
  a146 := Tryz.isAgg173
  z146 := Tryz.sizeOf173
  v146 := Tryz.zeroValue173
  t148 := Tryz.underlying175
  a148 := Tryz.isAgg175
  z148 := Tryz.sizeOf175
  v148 := Tryz.zeroValue175
  t164 := Tryz.underlying200
  a164 := Tryz.isAgg200
  z164 := Tryz.sizeOf200
  v164 := Tryz.zeroValue200
def shComp_ren : Go.Shelf.Ren := ⟨fun | 20 => 58 | n => n, fun | 22 => 81 | 3 => 3 | 4 => 4 | 0 => 0 | n => n, fun | n => n⟩
theorem shComp : Go.Proofs.Lays2.n20 Tryz.prog shComp_ren where
  mixed := by kernel_rfl
  f20 := Tryz.func58.trans (congrArg some (by kernel_rfl))
  t0 := Tryz.underlying0
  a0 := Tryz.isAgg0
  z0 := Tryz.sizeOf0
  v0 := Tryz.zeroValue0
  t3 := Tryz.underlying3
  a3 := Tryz.isAgg3
  z3 := Tryz.sizeOf3
  v3 := Tryz.zeroValue3
  t4 := Tryz.underlying4
  a4 := Tryz.isAgg4
  z4 := Tryz.sizeOf4
  v4 := Tryz.zeroValue4
  t22 := Tryz.underlying81
  a22 := Tryz.isAgg81
  z22 := Tryz.sizeOf81
  v22 := Tryz.zeroValue81
  i3 := by kernel_rfl
theorem shRepX : Builder.Extra Tryz.prog shRep_ren where
  sizeBuilder := by kernel_rfl
  liesBuilder := by kernel_rfl
  t5 := Tryz.underlying5
  a5 := Tryz.isAgg5
  z5 := Tryz.sizeOf5
  v5 := Tryz.zeroValue5
  infoByte := by kernel_rfl
  cellsByte := by kernel_rfl
  sizeByte := by kernel_rfl
  neB5 := by decide
end Go.Proofs.YtnlepoplncjliaaGreatDoor

namespace Go.Proofs.YtnlepoplncjliaaGreatDoor
open Go.RowKit Go.Maps Go.Sort

def anyR : Value → Option (DataW Unit × List MemPlace) := fun _ => some (.agg [], [])
def u8s (s : List Nat) : List UInt8 := s.map UInt8.ofNat
def leN (a b : List Nat) : Bool := decide (u8s a ≤ u8s b)
/-- Names in order. -/
def sortN (l : List (List Nat)) : List (List Nat) := l.mergeSort leN
theorem keyOf_nm (nm : List Nat) (h : nm.length ≤ maxLen) : keyOf Tryz.prog 9 (.string (strOf nm)) = some (.string (u8s nm)) := by
  have hk := Tryz.underlying9
  have h2 : (strOf nm).size ≤ maxLen := by rw [strOf_size]; exact h
  have h3 := strOf_data nm
  simp [keyOf, hk, mapKey, h2, u8s, h3]
theorem Mp.owns {w : World} {m : Nat} {l : List (List Nat × Nat)} (h : Mp w m l) (hl : ∀ p ∈ l, p.1.length ≤ maxLen) (hn : l.length ≤ maxLen) : ∃ D0 : DataW Unit, w.ownsMap Tryz.prog 9 anyR m l.length D0 ∧ (strKeys D0).Perm (l.map fun p => u8s p.1) ∧ Maps.size D0 = l.length := by
  obtain ⟨es, clk, h1, h2, h3⟩ := h.ex
  have hsz : es.size = l.length := by have := congrArg List.length h3; simpa using this
  have hrd : ∀ x ∈ es.toList, ∃ p ∈ l, x.key = .string (strOf p.1) := fun x hx => by
    have : x.key ∈ es.toList.map (·.key) := List.mem_map.2 ⟨x, hx, rfl⟩
    rw [kv_key h3] at this
    obtain ⟨p, hp, e⟩ := List.mem_map.1 this
    exact ⟨p, hp, e.symm⟩
  have hrd2 : ∀ x ∈ es.toList, ∃ y, WideElems.rd Tryz.prog 9 anyR x = some y := fun x hx => by
    obtain ⟨p, hp, e⟩ := hrd x hx
    obtain ⟨key, val, born⟩ := x
    simp only at e
    subst e
    exact ⟨_, WideElems.rd_mk (keyOf_nm p.1 (hl p hp)) rfl⟩
  refine ⟨.map ((es.toList.map (WideElems.rg Tryz.prog 9 anyR)).foldr DataW.insert []), ⟨es, clk, h1, ⟨by omega, h2, hrd2⟩, by omega, rfl⟩, ?_, ?_⟩
  · show (((es.toList.map (WideElems.rg Tryz.prog 9 anyR)).foldr DataW.insert []).map fun p => Go.strOf p.1).Perm _
    refine ((WideShapes.sorted_perm _).map _).trans ?_
    rw [List.map_map]
    have : (es.toList.map ((fun p : Lit × DataW Unit => Go.strOf p.1) ∘ WideElems.rg Tryz.prog 9 anyR)) = l.map fun p => u8s p.1 := by
      apply List.ext_getElem?
      intro i
      rw [List.getElem?_map, List.getElem?_map]
      have h4 := kv_get h3 i
      cases hx : es.toList[i]? with
      | none =>
        rw [hx] at h4
        cases hp : l[i]? with
        | none => rfl
        | some p => rw [hp] at h4; cases h4
      | some x =>
        rw [hx] at h4
        cases hp : l[i]? with
        | none => rw [hp] at h4; cases h4
        | some p =>
          rw [hp] at h4
          simp only [Option.map_some, Option.some.injEq, kv, Prod.mk.injEq] at h4
          have hk := keyOf_nm p.1 (hl p (List.mem_of_getElem? hp))
          obtain ⟨key, val, born⟩ := x
          simp only at h4
          obtain ⟨rfl, -⟩ := h4
          have := WideElems.rg_of (WideElems.rd_mk (R := anyR) (val := val) (born := born) hk rfl)
          simp only [Option.map_some, Function.comp, this]
          rfl
    rw [this]
  · show ((es.toList.map (WideElems.rg Tryz.prog 9 anyR)).foldr DataW.insert []).length = _
    rw [length_sorted]
    simp [hsz]
theorem sorted_nm {l : List (List Nat × Nat)} {ss D : List (List UInt8)} (h1 : ss.Perm D) (h2 : D.Perm (l.map fun p => u8s p.1)) : (ss.mergeSort fun x y => decide (x ≤ y)).map encStr = Ts (sortN (l.map (·.1))) := by
  have h3 : ss.mergeSort (fun x y => decide (x ≤ y)) = (l.map fun p => u8s p.1).mergeSort (fun x y => decide (x ≤ y)) := mergeSort_of_perm (h1.trans h2)
  have h4 : (l.map fun p => u8s p.1) = (l.map (·.1)).map u8s := by rw [List.map_map]; rfl
  have h5 : ((l.map (·.1)).mergeSort leN).map u8s = ((l.map (·.1)).map u8s).mergeSort (fun x y => decide (x ≤ y)) := List.map_mergeSort (fun a _ b _ => rfl)
  rw [h3, h4, ← h5]
  unfold Ts sortN
  rw [List.map_map]
  rfl
theorem names_any (B g0 : Nat) (D : Dk) (w : World) (h : DkAt w B g0 D) :
    Calls Tryz.prog 31 #[.pointer (some ⟨g0, 0, none⟩)] w fun e w' => ∃ v, e = .returned v ∧ Own w' w.heap.size 9 1 v D.files.length (Ts (sortN (D.files.map (·.1)))) ∧ Grow w w' := by
  obtain ⟨m, l, F, c1, c2, dk⟩ := h
  have k0 := dk.k
  have bel := Below.refl w.heap.size w
  have hlen : l.length = D.files.length := by rw [dk.fl]; unfold fsOf; rw [List.length_map]
  have hmost := dk.ok.most
  have hnames : D.files.map (·.1) = l.map (·.1) := by rw [dk.fl, fs_names]
  obtain ⟨D0, hown, hperm, hsize⟩ := dk.mp.owns (fun p hp => by
    have := dk.ok.fil (p.1, F p.2) (by rw [dk.fl]; exact List.mem_map.2 ⟨p, hp, rfl⟩)
    have := this.2.2.2
    simp only at this
    simp only [maxLen]
    omega) (by simp only [maxLen]; omega)
  have hmax : Maps.size D0 ≤ maxLen := by rw [hsize]; simp only [maxLen]; omega
  have hbytes : Maps.size D0 * 16 ≤ 140737488355328 := by rw [hsize]; omega
  have hbl := hown.lt
  have hseq : SeqGives Fence.wide 2 Tryz.prog 76 #[.pointer (some ⟨w.heap.size, 0, none⟩)] encStr (fun ss => ss.Perm (strKeys D0)) (Maps.size D0) (w.alloc (.cells #[.map (some m)] 75)) :=
    AnyZ.keys_gives (ρ := shKeys_ren) { shKeys with } Fence.wide _ trivial rfl (by omega) w.heap.size m l.length D0 _ (by simp) (by simp) (by
      obtain ⟨es, clock, hb, Ft, hs, hD⟩ := hown
      exact ⟨es, clock, (Below.heap_alloc _ _ m hbl).trans hb, Ft, hs, hD⟩)
  have hsrt : AnyZ.SortsIn Tryz.prog shSorted_ren Fence.wide 4 :=
    ⟨fun blk off cap ss W hH hblk hsz => callsIn_wide.2 (AnyM.slices_Sort_string shSortS blk off cap ss W hH hblk hsz), fun p cap W => callsIn_wide.2 (AnyM.slices_Sort_string_none shSortS p cap W)⟩
  have cK := callsIn_wide.1 (AnyZ.keys_in shKeys Fence.wide 5 trivial rfl (some m) w)
  have cS := callsIn_wide.1 (AnyZ.sorted_in shSorted Fence.wide 5 trivial trivial trivial trivial rfl (by omega) hsrt (enters_of Tryz.func75 (by kernel_rfl) rfl) 76 #[.pointer (some ⟨w.heap.size, 0, none⟩)] trivial (enters_of Tryz.func76 (by kernel_rfl) rfl) _ _ hmax hbytes _ hseq)
  refine Calls.start 11 Tryz.func31 rfl rfl rfl ?_
  refine Cd.seq ?_
  refine Cd.region ?_
  refine Seq.val (Runs.assign rfl rfl) rfl rfl rfl ?_
  refine Seq.nil ?_
  refine Post.weak (F' := [(0, _), (2, _)]) ⟨rfl, rfl, trivial⟩ ?_
  refine Post.then_ ?_
  refine Cd.seq ?_
  refine Cd.seq ?_
  refine Cd.region ?_
  refine Seq.val (Runs.move rfl rfl) rfl rfl rfl ?_
  refine Seq.val (Runs.eqlP rfl rfl rfl Tryz.underlying26) rfl rfl rfl ?_
  refine Seq.nil ?_
  refine Post.weak (F' := [(0, _), (2, _), (4, _)]) ⟨rfl, rfl, rfl, trivial⟩ ?_
  refine Post.then_ ?_
  refine Cd.condF rfl rfl ?_
  refine Cd.skip ?_
  refine Post.then_ ?_
  refine Cd.seq ?_
  refine Cd.region ?_
  refine Seq.val (Runs.move rfl rfl) rfl rfl rfl ?_
  refine Seq.val (Runs.nilCheck rfl rfl) rfl rfl rfl ?_
  refine Seq.val (Runs.fieldB 1 rfl rfl Tryz.underlying77 rfl (by kernel_rfl)) rfl rfl rfl ?_
  refine Seq.val (Runs.loadB rfl rfl Tryz.underlying75 rfl k0 rfl) rfl rfl rfl ?_
  refine Seq.call (Enters.func rfl rfl rfl (run_enter Tryz.func52 (by kernel_rfl) rfl)) rfl rfl rfl (cK) ?_
  rintro e x ⟨rfl, rfl⟩
  refine ⟨_, rfl, ?_⟩
  refine Seq.call (Enters.func rfl rfl rfl (run_enter Tryz.func51 (by kernel_rfl) rfl)) rfl rfl rfl (cS) ?_
  rintro e w2 ⟨v, ss, rfl, hS, hrow, hnil, hb⟩
  refine ⟨_, rfl, ?_⟩
  have hb2 : Below w.heap.size w w2 := ((Below.refl _ w).alloc (Nat.le_refl _) _).trans (hb.mono (by simp))
  have hlen2 : ss.length = D.files.length := by
    have h1 := (hS.trans hperm).length_eq
    rw [List.length_map] at h1
    omega
  have hown2 : Own w2 w.heap.size 9 1 v D.files.length (Ts (sortN (D.files.map (·.1)))) := by
    have h1 : w2.ownsRow w.heap.size 9 1 v ss.length ((ss.mergeSort fun x y => decide (x ≤ y)).map encStr) := ownsRow_base_a hrow (by simp)
    rw [sorted_nm hS hperm, hlen2, ← hnames] at h1
    exact ⟨h1⟩
  clear bel
  have bel := hb2
  refine Seq.val (Runs.assign rfl rfl) rfl rfl rfl ?_
  refine Seq.nil ?_
  refine Post.weak (F' := [(0, _), (2, _), (4, _)]) ⟨rfl, rfl, rfl, trivial⟩ ?_
  refine Post.then_ ?_
  refine Cd.ret ?_
  refine Post.end1 rfl rfl (.inl rfl) ?_
  exact ⟨v, rfl, hown2, bel⟩
end Go.Proofs.YtnlepoplncjliaaGreatDoor

