/-
  Regions that draw their order, with a chain of operations that change what is known of the world: each waits for the one before it. No condition.
-/
import Derived.Test.YtefpejnmhlhnkaaGreatDoorKI
set_option linter.unusedSectionVars false
namespace Go.Proofs.YtefpejnmhlhnkaaGreatDoor
open Go.RowKit
variable [Inhabited (List Deferred)]

/-- A place in the chain; how much of it is done. -/
def posC : List Nat → Nat → Option Nat
  | [], _ => none
  | x :: r, k => bif Nat.beq x k then some 0 else (match posC r k with | some c => some (c + 1) | none => none)
def cntC (S : Nat → Bool) : List Nat → Nat
  | [] => 0
  | c :: r => bif S c then cntC S r + 1 else 0
def updC (S : Nat → Bool) (i : Nat) : Nat → Bool := fun j => if j = i then true else S j
def chkChain (ops : List Oper) : List Nat → Bool
  | [] => true
  | a :: r => (match r with
    | [] => true
    | b :: _ => (match ops[b]? with | some o => memB (direct o) a | none => false)) && chkChain ops r
def nextC (CH : List Nat) (k c : Nat) : Nat := match posC CH k with | some _ => c + 1 | none => c
theorem cntC_none {S : Nat → Bool} : ∀ {CH : List Nat}, (∀ c ∈ CH, S c = false) → cntC S CH = 0
  | [], _ => rfl
  | c :: r, h => by unfold cntC; rw [h c List.mem_cons_self]; rfl
theorem cntC_all {S : Nat → Bool} : ∀ {CH : List Nat}, (∀ c ∈ CH, S c = true) → cntC S CH = CH.length
  | [], _ => rfl
  | c :: r, h => by unfold cntC; rw [h c List.mem_cons_self, cond_true, cntC_all (fun c hc => h c (List.mem_cons_of_mem _ hc))]; rfl
section
variable {ops : List Oper} {S : Nat → Bool} {i : Nat} {o : Oper}
theorem chain_back (hoi : ops[i]? = some o) (hdc : ∀ i o, ops[i]? = some o → S i = true → ∀ x ∈ direct o, S x = true) (hd : ∀ x ∈ direct o, S x = true) : ∀ (r : List Nat) (a c : Nat), chkChain ops (a :: r) = true → posC r i = some c → S a = true
  | [], a, c, _, h => by cases h
  | b :: r, a, c, hch, hp => by
    unfold chkChain at hch
    simp only [Bool.and_eq_true] at hch
    obtain ⟨h1, h2⟩ := hch
    cases hob : ops[b]? with
    | none => rw [hob] at h1; cases h1
    | some ob =>
      rw [hob] at h1
      unfold posC at hp
      cases hb : Nat.beq b i with
      | true =>
        obtain rfl := Nat.eq_of_beq_eq_true hb
        rw [hoi] at hob
        obtain rfl : o = ob := by injection hob
        exact hd a (memB_spec h1)
      | false =>
        rw [hb, cond_false] at hp
        cases hr : posC r i with
        | none => rw [hr] at hp; cases hp
        | some c' => exact hdc b ob hob (chain_back hoi hdc hd r b c' h2 hr) a (memB_spec h1)
theorem cntC_spec (hoi : ops[i]? = some o) (hdc : ∀ i o, ops[i]? = some o → S i = true → ∀ x ∈ direct o, S x = true) (hd : ∀ x ∈ direct o, S x = true) (hS : S i = false) : ∀ {CH : List Nat}, chkChain ops CH = true →
    (∀ c, posC CH i = some c → cntC S CH = c) ∧ cntC (updC S i) CH = nextC CH i (cntC S CH)
  | [], _ => ⟨fun c h => (by cases h), rfl⟩
  | a :: r, hch => by
    have hch' := hch
    unfold chkChain at hch
    simp only [Bool.and_eq_true] at hch
    obtain ⟨h1, h2⟩ := hch
    obtain ⟨ih1, ih2⟩ := cntC_spec hoi hdc hd hS h2
    by_cases hai : a = i
    · subst hai
      have hp : posC (a :: r) a = some 0 := by unfold posC; rw [Nat.beq_refl]; rfl
      have h0 : cntC S (a :: r) = 0 := by unfold cntC; rw [hS]; rfl
      refine ⟨fun c hc => by rw [hp] at hc; injection hc with hc; rw [h0, hc], ?_⟩
      unfold nextC
      rw [hp, h0]
      unfold cntC
      have : updC S a a = true := by unfold updC; simp
      rw [this, cond_true]
      have hz : cntC (updC S a) r = 0 := by
        cases r with
        | nil => rfl
        | cons b r' =>
          simp only at h1
          cases hob : ops[b]? with
          | none => rw [hob] at h1; cases h1
          | some ob =>
            rw [hob] at h1
            have hSb : S b = false := by
              cases hSb : S b with
              | false => rfl
              | true => have := hdc b ob hob hSb a (memB_spec h1); rw [hS] at this; cases this
            have hba : b ≠ a := by
              rintro rfl
              rw [hoi] at hob
              obtain rfl : o = ob := by injection hob
              have := hd b (memB_spec h1)
              rw [hS] at this; cases this
            unfold cntC
            have : updC S a b = false := by unfold updC; rw [if_neg hba]; exact hSb
            rw [this]; rfl
      rw [hz]
    · have hb : Nat.beq a i = false := by
        cases h : Nat.beq a i with
        | false => rfl
        | true => exact absurd (Nat.eq_of_beq_eq_true h) hai
      have hu : updC S i a = S a := by unfold updC; rw [if_neg hai]
      cases hr : posC r i with
      | none =>
        have hp : posC (a :: r) i = none := by unfold posC; rw [hb, cond_false, hr]
        refine ⟨fun c hc => (by rw [hp] at hc; cases hc), ?_⟩
        unfold nextC at ih2 ⊢
        rw [hr] at ih2
        rw [hp]
        show cntC (updC S i) (a :: r) = cntC S (a :: r)
        unfold cntC
        rw [hu, ih2]
      | some c' =>
        have hp : posC (a :: r) i = some (c' + 1) := by unfold posC; rw [hb, cond_false, hr]
        have hSa := chain_back hoi hdc hd r a c' hch' hr
        have hc1 := ih1 c' hr
        have e1 : cntC S (a :: r) = c' + 1 := by
          show (bif S a then cntC S r + 1 else 0) = c' + 1
          rw [hSa, cond_true, hc1]
        refine ⟨fun c hc => by rw [hp] at hc; injection hc with hc; rw [e1, hc], ?_⟩
        unfold nextC at ih2 ⊢
        rw [hr] at ih2
        rw [hp, e1]
        show (bif updC S i a then cntC (updC S i) r + 1 else 0) = _
        rw [hu, hSa, cond_true, ih2, hc1]
end

section
variable (P : Program) (ops : Array Oper) (Q : Exit → Act → World → Prop) (n : Nat) (F0 : List (Nat × Value)) (G : World → World → Prop) (w0 : World) (CH : List Nat) (J : Nat → World → Prop)
def StepJ (k : Nat) (Γ : Env) (o : Oper) (f : Fact) : Prop := ∀ a w c, a.tmps.size = n → G w0 w → J c w → (∀ c', posC CH k = some c' → c = c') → Facts Γ (· ∈ direct o) a w → (∀ t v, look F0 t = some v → a.tmps[t]? = some v) →
  if Region.wanted o (yielded ops a.tmps) then o.wp P a w (fun a' w' => ∃ u, a' = a.put o.dst u ∧ G w w' ∧ f.holds u w' ∧ J (nextC CH k c) w') Q else f.holds undef w ∧ J (nextC CH k c) w
def DrJ (L : List Nat) (B : Env → Prop) : Nat → List Oper → Env → Prop
  | _, [], Γ => B Γ
  | k, o :: r, Γ => ∃ f, Fact.Stable G f ∧ StepJ P ops Q n F0 G w0 CH J k Γ o f ∧ (memB L k = true → Late P ops n F0 G w0 [] (fun _ => True) Γ o f) ∧ DrJ L B (k + 1) r ((k, o.dst, f) :: Γ)
end

section
variable {P : Program} {ops : Array Oper} {Q : Exit → Act → World → Prop} {n : Nat} {F0 : List (Nat × Value)} {G : World → World → Prop} {w0 : World} {CH : List Nat} {J : Nat → World → Prop}
theorem DrJ.out {L : List Nat} {B : Env → Prop} : ∀ (l : List Oper) (k : Nat) (Γ : Env), (∀ j, k ≤ j → Env.find Γ j = none) → DrJ P ops Q n F0 G w0 CH J L B k l Γ →
    ∃ Γ', B Γ' ∧ (∀ j, j < k → Env.find Γ' j = Env.find Γ j) ∧ (∀ j, k + l.length ≤ j → Env.find Γ' j = none) ∧
      ∀ i o, l[i]? = some o → ∃ f Γi, Env.find Γ' (k + i) = some (o.dst, f) ∧ Fact.Stable G f ∧ StepJ P ops Q n F0 G w0 CH J (k + i) Γi o f ∧ (memB L (k + i) = true → Late P ops n F0 G w0 [] (fun _ => True) Γi o f) ∧ ∀ j, j < k + i → Env.find Γi j = Env.find Γ' j
  | [], k, Γ, hk, h => ⟨Γ, h, fun _ _ => rfl, fun j hj => hk j (by simpa using hj), fun i o ho => by simp at ho⟩
  | o :: r, k, Γ, hk, h => by
    obtain ⟨f, hs, hstep, hlate, hr⟩ := h
    have hne : ∀ j, j ≠ k → Env.find ((k, o.dst, f) :: Γ) j = Env.find Γ j := fun j hj => by
      show (bif Nat.beq k j then some (o.dst, f) else Env.find Γ j) = _
      cases hb : Nat.beq k j with
      | true => exact absurd (Nat.eq_of_beq_eq_true hb).symm hj
      | false => rfl
    have heq : Env.find ((k, o.dst, f) :: Γ) k = some (o.dst, f) := by
      show (bif Nat.beq k k then some (o.dst, f) else Env.find Γ k) = _
      rw [Nat.beq_refl]; rfl
    obtain ⟨Γ', h1, h2, h3, h4⟩ := DrJ.out r (k + 1) _ (fun j hj => by rw [hne j (by omega)]; exact hk j (by omega)) hr
    refine ⟨Γ', h1, fun j hj => by rw [h2 j (by omega), hne j (by omega)], fun j hj => h3 j (by simp at hj; omega), fun i o' ho => ?_⟩
    cases i with
    | zero =>
      obtain rfl : o = o' := by simpa using ho
      exact ⟨f, Γ, by rw [Nat.add_zero, h2 k (by omega), heq], hs, by rw [Nat.add_zero]; exact hstep, by rw [Nat.add_zero]; exact hlate, fun j hj => by rw [h2 j (by omega), hne j (by omega)]⟩
    | succ i =>
      obtain ⟨f', Γi, a1, a2, a3, al, a4⟩ := h4 i o' (by simpa using ho)
      exact ⟨f', Γi, by rw [show k + (i + 1) = k + 1 + i from by omega]; exact a1, a2, by rw [show k + (i + 1) = k + 1 + i from by omega]; exact a3, by rw [show k + (i + 1) = k + 1 + i from by omega]; exact al, fun j hj => a4 j (by omega)⟩

theorem wp_drawJ {id : Nat} (L : List Nat) {init tail : List Oper} (hLC : ∀ i, memB L i = true → posC CH i = none) (hCH : chkChain init CH = true) (hCl : ltAll init.length CH = true) (hQ : L = [] ∨ ∀ c (a : Act) d v w, Q (.panic c) (a.put d v) w → Q (.panic c) a w) (hm : P.follows .mixedOrders = true) (hops : ops = (init ++ tail).toArray) (hchk : chkAll n (keysOf F0) L init tail = true) (Gt : ∀ a b c, G a b → G b c → G a c) (Gr : ∀ w, G w w)
    {w : World} (hw0 : w0 = { w with drawn := w.drawn + 1 }) (hJ0 : J 0 w0) (h : DrJ P ops Q n F0 G w0 CH J L (FinX P ops Q n F0 G w0 tail [] (fun w => J CH.length w)) 0 init []) {a : Act} (ha : Fr n F0 a) : (Code.region id ops true).wp P Q a w := by
  refine wp_region_any hm ?_
  rw [← hw0]
  simp only [chkAll, Bool.and_eq_true] at hchk
  obtain ⟨⟨⟨hc1, hc2⟩, hcL⟩, hcl⟩ := hchk
  have hLlt : ∀ i, memB L i = true → i < init.length := fun i hi => ltAll_spec hcL i (memB_spec hi)
  have c1 := chkInit_spec hc1
  have hsz : ops.size = init.length + tail.length := by rw [hops]; simp
  have hat : ∀ i, i < init.length → ops[i]? = init[i]? := fun i hi => by rw [hops]; simp [List.getElem?_append_left hi]
  have hat2 : ∀ r, ops[init.length + r]? = tail[r]? := fun r => by rw [hops]; simp [List.getElem?_append_right]
  obtain ⟨Γ, hfin, -, hnone, hall⟩ := DrJ.out init 0 [] (fun _ _ => rfl) h
  -- the tail's edges
  have t0 : ∀ o, tail[0]? = some o → ∀ x ∈ direct o, x < init.length := by
    intro o ho
    cases tail with
    | nil => simp at ho
    | cons o1 r =>
      obtain rfl : o1 = o := by simpa using ho
      simp only [Bool.and_eq_true] at hc2
      exact ltAll_spec hc2.1.1
  have ts : ∀ i o, tail[i + 1]? = some o → (∀ x ∈ direct o, x < init.length + 1 + i) ∧ init.length + 1 + i - 1 ∈ direct o := by
    intro i o ho
    cases tail with
    | nil => simp at ho
    | cons o1 r =>
      simp only [Bool.and_eq_true] at hc2
      exact chkTail_spec hc2.2 i o (by simpa using ho)
  have tm : ∀ o, tail[0]? = some o → ∀ j, j < init.length → memB L j = false → ∃ (i : Nat) (o' : Oper), j < i ∧ i ≤ init.length ∧ ops[i]? = some o' ∧ j ∈ direct o' ∧ memB L i = false := by
    intro o ho j hj hjL
    cases tail with
    | nil => simp at ho
    | cons o1 r =>
      simp only [Bool.and_eq_true] at hc2
      obtain ⟨i, o', h1, h2, h3, h4⟩ := chkMeet_spec hc2.1.2 j hj (by rw [Nat.zero_add]; exact hjL)
      rw [Nat.zero_add] at h3 h4
      have hi : i < (init ++ [o1]).length := (List.getElem?_eq_some_iff.1 h2).1
      simp at hi
      refine ⟨i, o', h1, by omega, ?_, h3, h4⟩
      rcases Nat.lt_or_ge i init.length with hlt | hge
      · rw [hat i hlt, ← h2, List.getElem?_append_left hlt]
      · obtain rfl : i = init.length := by omega
        have := hat2 0
        rw [Nat.add_zero] at this
        rw [this, ← h2, List.getElem?_append_right (Nat.le_refl _)]
        simp
  have bothT : ∀ (listed : Array Bool) x, listed.size = ops.size → x < ops.size → listed.getD x true = true → listed.getD x false = true := by
    intro listed x hl hx h
    have hxl : x < listed.size := by omega
    simp [hxl] at h ⊢; exact h
  have hall2 : ∀ (listed : Array Bool) {w : World}, listed.size = ops.size → (∀ i, i < init.length → listed.getD i true = true) → J (cntC (fun j => listed.getD j false) CH) w → J CH.length w := by
    intro listed w hl h hJ
    rw [cntC_all (fun c hc => bothT listed c hl (by have := ltAll_spec hCl c hc; omega) (h c (ltAll_spec hCl c hc)))] at hJ
    exact hJ
  -- the first part
  have key : ∀ (fuel : Nat) (listed : Array Bool) (a : Act) (w : World), listed.size = ops.size → (∀ i o, ops[i]? = some o → listed.getD i false = true → ∀ x ∈ direct o, listed.getD x false = true) → (∀ i, init.length ≤ i → i < ops.size → listed.getD i true = false) →
      a.tmps.size = n → a.defers = default → G w0 w → Facts Γ (fun j => listed.getD j false = true) a w → (∀ t v, look F0 t = some v → a.tmps[t]? = some v) → J (cntC (fun j => listed.getD j false) CH) w → left listed ops.size ≤ fuel → wpAny P .any ops Q fuel listed a w := by
    intro fuel
    induction fuel with
    | zero =>
      intro listed a w hl hdc hts hsize hdef hG hF hs hJw hf
      have hall1 := left_zero (Nat.le_zero.1 hf)
      have hlen : init.length = ops.size := by
        rcases Nat.lt_or_ge init.length ops.size with hh | hh
        · have := hall1 _ hh; rw [hts _ (Nat.le_refl _) hh] at this; cases this
        · omega
      refine phase2 hops t0 ts 0 0 listed a w hl (Nat.zero_le _) (fun i hi => hall1 i (by omega)) (fun i hi hi2 => by omega) (by omega) ?_
      rw [List.drop_zero]
      have hlis : ∀ j d f, Env.find Γ j = some (d, f) → listed.getD j false = true := fun j d f hj => by
        rcases Nat.lt_or_ge j init.length with hh | hh
        · exact bothT listed j hl (by omega) (hall1 j (by omega))
        · rw [hnone j (by omega)] at hj; cases hj
      exact hfin a w hsize hdef hG (hall2 listed hl (fun i hi => hall1 i (by omega)) hJw) (fun j d f hj _ => hF j d f hj (hlis j d f hj)) hs (fun t v ht => by simp [look] at ht)
    | succ fuel ih =>
      intro listed a w hl hdc hts hsize hdef hG hF hs hJw hf
      by_cases hdone : ∀ i, i < init.length → listed.getD i true = true
      · refine phase2 hops t0 ts (fuel + 1) 0 listed a w hl (Nat.zero_le _) (fun i hi => hdone i (by omega)) (fun i hi hi2 => hts i (by omega) hi2) ?_ ?_
        ·
          have : ∀ k, k ≤ tail.length → left listed (init.length + k) = left listed init.length + k := by
            intro k
            induction k with
            | zero => intro _; rfl
            | succ k ihk =>
              intro hk
              show left listed (init.length + k) + (if listed.getD (init.length + k) true then 0 else 1) = _
              rw [ihk (by omega), hts (init.length + k) (by omega) (by omega)]
              simp; omega
          have := this tail.length (Nat.le_refl _)
          rw [← hsz] at this
          omega
        · rw [List.drop_zero]
          have hlis : ∀ j d f, Env.find Γ j = some (d, f) → listed.getD j false = true := fun j d f hj => by
            rcases Nat.lt_or_ge j init.length with hh | hh
            · exact bothT listed j hl (by omega) (hdone j hh)
            · rw [hnone j (by omega)] at hj; cases hj
          exact hfin a w hsize hdef hG (hall2 listed hl hdone hJw) (fun j d f hj _ => hF j d f hj (hlis j d f hj)) hs (fun t v ht => by simp [look] at ht)
      ·
        have hex : ∃ i, i ∈ Region.ready .any ops listed := by
          have hex0 : ∃ i, i < init.length ∧ listed.getD i true = false := by
            refine Classical.byContradiction fun hno => hdone fun i hi => ?_
            cases hb : listed.getD i true with
            | true => rfl
            | false => exact absurd ⟨i, hi, hb⟩ hno
          have hmin : ∀ m i, i ≤ m → i < init.length → listed.getD i true = false → ∃ j, j < init.length ∧ listed.getD j true = false ∧ ∀ x, x < j → listed.getD x true = true := by
            intro m
            induction m with
            | zero => intro i hi h1 h2; exact ⟨i, h1, h2, fun x hx => by omega⟩
            | succ m ihm =>
              intro i hi h1 h2
              by_cases hx : ∃ x, x < i ∧ listed.getD x true = false
              · obtain ⟨x, hx1, hx2⟩ := hx
                exact ihm x (by omega) (by omega) hx2
              · refine ⟨i, h1, h2, fun x hx1 => ?_⟩
                cases hb : listed.getD x true with
                | true => rfl
                | false => exact absurd ⟨x, hx1, hb⟩ hx
          obtain ⟨i0, hi0, hb0⟩ := hex0
          obtain ⟨j, hj1, hj2, hj3⟩ := hmin i0 i0 (Nat.le_refl _) hi0 hb0
          refine ⟨j, ready_iff.2 ⟨hj2, init[j], by rw [hat j hj1, List.getElem?_eq_getElem hj1], fun x hx => ?_⟩⟩
          have hlt : x < j := by have := (c1 j _ (List.getElem?_eq_getElem hj1)).1 x hx; omega
          exact bothT listed x hl (by omega) (hj3 x hlt)
        -- what one of the first part's operations comes to
        have go : ∀ i o, i < init.length → i ∈ Region.ready .any ops listed → ops[i]? = some o → ∃ f : Fact, (if Region.wanted o (yielded ops a.tmps) = true then o.wp P a w (fun a' w' => ∃ u, a' = a.put o.dst u ∧ G w w' ∧ f.holds u w' ∧ J (cntC (fun j => (listed.setIfInBounds i true).getD j false) CH) w') Q else f.holds undef w ∧ J (cntC (fun j => (listed.setIfInBounds i true).getD j false) CH) w) ∧
            (memB L i = true → (∃ v, f = .eq v ∧ Yields P ops o v a) ∧ J (cntC (fun j => (listed.setIfInBounds i true).getD j false) CH) w) ∧ ∀ u w', G w w' → f.holds u w' → J (cntC (fun j => (listed.setIfInBounds i true).getD j false) CH) w' → wpAny P .any ops Q fuel (listed.setIfInBounds i true) (a.put o.dst u) w' := by
          intro i o hlt hi ho
          obtain ⟨g1, o1, ho1, g2⟩ := ready_iff.1 hi
          rw [ho] at ho1
          obtain rfl : o = o1 := by injection ho1
          have hi' : i < ops.size := (Array.getElem?_eq_some_iff.1 ho).1
          have hoi : init[i]? = some o := by rw [← hat i hlt]; exact ho
          obtain ⟨f, Γi, f1, f2, f3, fl, f4⟩ := hall i o hoi
          rw [Nat.zero_add] at f1 f3 f4 fl
          obtain ⟨d1, d2⟩ := c1 i o hoi
          have hSi : listed.getD i false = false := getD_both g1
          have hupd : (fun j => (listed.setIfInBounds i true).getD j false) = updC (fun j => listed.getD j false) i := by
            funext j
            unfold updC
            by_cases e : i = j
            · subst e; simp [getD_set_self false (show i < listed.size by omega)]
            · rw [getD_set_ne false e]
              rw [if_neg (fun h => e h.symm)]
          have hcnt := cntC_spec (ops := init) (S := fun j => listed.getD j false) (i := i) (o := o) hoi (fun i2 o2 h1 h2 => hdc i2 o2 (by rw [hat i2 (List.getElem?_eq_some_iff.1 h1).1]; exact h1) h2) g2 hSi hCH
          have hx := f3 a w _ hsize hG hJw hcnt.1 (fun j d f' hj hd => hF j d f' (by rw [← f4 j (by have := d1 j hd; omega)]; exact hj) (g2 j hd)) hs
          rw [← hcnt.2, ← hupd] at hx
          have hslot : ∀ u j d f, j ≠ i → Env.find Γ j = some (some d, f) → (a.put o.dst u).tmps[d]? = a.tmps[d]? := by
            intro u j d f hji hj
            rcases Nat.lt_or_ge j init.length with hh | hh
            · have hoj : init[j]? = some init[j] := List.getElem?_eq_getElem hh
              obtain ⟨fj, Γj, q1, -⟩ := hall j _ hoj
              rw [Nat.zero_add, hj] at q1
              injection q1 with q1
              injection q1 with q1 _
              have hdj : init[j].dst = some d := q1.symm
              have hdi : o.dst ≠ some d := fun hdi => (d2 d hdi).2.2.2 j _ hoj hji hdj
              cases hd : o.dst with
              | none => rfl
              | some d0 =>
                have : d0 ≠ d := fun e' => hdi (by rw [hd, e'])
                simp only [Act.put]
                rw [Array.getElem?_setIfInBounds_ne this]
            · rw [hnone j (by omega)] at hj; cases hj
          -- what holds behind it
          have next : ∀ u w', G w w' → f.holds u w' → J (cntC (fun j => (listed.setIfInBounds i true).getD j false) CH) w' → wpAny P .any ops Q fuel (listed.setIfInBounds i true) (a.put o.dst u) w' := by
            intro u w' hG' hu hmk
            refine ih _ _ _ (by simp [hl]) ?_ ?_ ?_ ?_ (Gt _ _ _ hG hG') ?_ ?_ hmk ?_
            · intro i2 o2 h1 h2 x hx2
              by_cases e : i = i2
              · subst e
                rw [ho] at h1
                obtain rfl : o = o2 := by injection h1
                exact getD_set_true (g2 x hx2)
              · rw [getD_set_ne false e] at h2
                exact getD_set_true (hdc i2 o2 h1 h2 x hx2)
            · intro i2 h1 h2
              rw [getD_set_ne true (by omega)]
              exact hts i2 h1 h2
            · cases hd : o.dst <;> simp [Act.put, hsize]
            · cases hd : o.dst <;> simp [Act.put, hdef]
            · intro j d f' hj hjl
              by_cases e : i = j
              · subst e
                rw [f1] at hj
                injection hj with hj
                injection hj with e1 e2
                subst e1 e2
                refine ⟨u, fun t ht => ?_, hu⟩
                have := (d2 t ht).1
                rw [ht]
                simp [Act.put, hsize, this]
              · rw [getD_set_ne false e] at hjl
                obtain ⟨u', h1, h2⟩ := hF j d f' hj hjl
                refine ⟨u', fun t ht => ?_, ?_⟩
                · rcases Nat.lt_or_ge j init.length with hh | hh
                  · have hoj : init[j]? = some init[j] := List.getElem?_eq_getElem hh
                    obtain ⟨fj, Γj, q1, -⟩ := hall j _ hoj
                    rw [Nat.zero_add, hj] at q1
                    injection q1 with q1
                    injection q1 with q1 _
                    have hdj : init[j].dst = some t := by rw [← q1]; exact ht
                    have hdi : o.dst ≠ some t := fun hdi => (d2 t hdi).2.2.2 j _ hoj (fun e' => e e'.symm) hdj
                    cases hd : o.dst with
                    | none => exact h1 t ht
                    | some d0 =>
                      have : d0 ≠ t := fun e' => hdi (by rw [hd, e'])
                      simp only [Act.put]
                      rw [Array.getElem?_setIfInBounds_ne this]
                      exact h1 t ht
                  · rw [hnone j (by omega)] at hj; cases hj
                · have hst : Fact.Stable G f' := by
                    rcases Nat.lt_or_ge j init.length with hh | hh
                    · obtain ⟨fj, Γj, q1, q2, -⟩ := hall j _ (List.getElem?_eq_getElem hh)
                      rw [Nat.zero_add, hj] at q1
                      injection q1 with q1
                      injection q1 with _ q1
                      rw [q1]; exact q2
                    · rw [hnone j (by omega)] at hj; cases hj
                  cases f' with
                  | eq v => exact h2
                  | sat Φ => exact hst u' w w' hG' h2
            · intro t v ht
              cases hd : o.dst with
              | none => exact hs t v ht
              | some d0 =>
                have : d0 ≠ t := fun e' => (d2 d0 hd).2.2.1 (by rw [e']; exact look_keys ht)
                simp only [Act.put]
                rw [Array.getElem?_setIfInBounds_ne this]
                exact hs t v ht
            · have := left_set (listed := listed) (i := i) (by omega) g1 ops.size
              rw [if_pos hi'] at this
              omega
          refine ⟨f, hx, fun hL => ?_, next⟩
          obtain ⟨v, e, hy⟩ := fl hL
          refine ⟨⟨v, e, hy a w hsize hG trivial (fun j d f' hj hd => hF j d f' (by rw [← f4 j (by have := d1 j hd; omega)]; exact hj) (g2 j hd)) hs (fun t v ht => by simp [look] at ht)⟩, ?_⟩
          rw [hupd, hcnt.2]
          unfold nextC
          rw [hLC i hL]
          exact hJw
        by_cases hlate : ∃ i, memB L i = true ∧ i ∈ Region.ready .any ops listed
        · obtain ⟨i, hiL, hi⟩ := hlate
          obtain ⟨g1, o, ho, g2⟩ := ready_iff.1 hi
          obtain ⟨f, -, hl2, next⟩ := go i o (hLlt i hiL) hi ho
          obtain ⟨⟨v, rfl, hy⟩, hJ2⟩ := hl2 hiL
          have hcl' : chkLate (init ++ tail).toArray L = true ∧ noSel (init ++ tail) = true := by
            cases L with
            | nil => cases hiL
            | cons x r => simpa using hcl
          rw [← hops] at hcl'
          have hup : listed.setIfInBounds i true = listed.setIfInBounds i true := rfl
          refine wpAny_first ho (fun j oj cs b hoj => noSel_spec hcl'.2 j oj cs b (by rw [hops] at hoj; simpa using hoj)) (fun c a w h => by rcases hQ with e | hQ; (rw [e] at hiL; cases hiL); exact hQ c a _ _ w h) fuel listed a w (fun j oj hoj hne hun hno => ?_) hi hy (next v w (Gr w) rfl hJ2)
          refine chkLate_spec hcl'.1 i o hiL ho j oj hoj (Ne.symm hne) (fun hm => ?_) (fun hm => ?_)
          · obtain ⟨e, he, hb, h1⟩ := mem_direct.1 hm
            exact hno e he hb h1
          · have := g2 j hm
            rw [getD_both hun] at this
            cases this
        refine ⟨(fun hnil => by obtain ⟨i, hi⟩ := hex; rw [hnil] at hi; cases hi), fun i hi => ?_⟩
        obtain ⟨g1, o, ho, g2⟩ := ready_iff.1 hi
        have hi' : i < ops.size := (Array.getElem?_eq_some_iff.1 ho).1
        have hlt : i < init.length := by
          rcases Nat.lt_or_ge i init.length with hh | hh
          · exact hh
          · exfalso
            apply hdone
            -- then all before it have come up
            have hi0 : i = init.length := by
              rcases Nat.eq_or_lt_of_le hh with e | hgt
              · exact e.symm
              · exfalso
                obtain ⟨q, rfl⟩ : ∃ q, i = init.length + (q + 1) := ⟨i - init.length - 1, by omega⟩
                rw [hat2] at ho
                have h3 := g2 _ (ts q o ho).2
                rw [getD_both (hts (init.length + 1 + q - 1) (by omega) (by omega))] at h3
                cases h3
            subst hi0
            have ho2 : tail[0]? = some o := by have := hat2 0; rw [Nat.add_zero] at this; rw [← this, ho]
            have down : ∀ q j, init.length - j ≤ q → j < init.length → memB L j = false → listed.getD j false = true := by
              intro q
              induction q with
              | zero => intro j h1 h2 _; omega
              | succ q ihq =>
                intro j h1 h2 hjL
                obtain ⟨i2, o2, b1, b2, b3, b4, b5⟩ := tm o ho2 j h2 hjL
                rcases Nat.eq_or_lt_of_le b2 with e | hlt2
                · subst e
                  rw [ho] at b3
                  obtain rfl : o = o2 := by injection b3
                  exact g2 j b4
                · exact hdc i2 o2 b3 (ihq i2 (by omega) hlt2 b5) j b4
            -- and of those that may come late none is left, as it could come up
            have all : ∀ q j, j ≤ q → j < init.length → listed.getD j false = true := by
              intro q
              induction q using Nat.strongRecOn with
              | _ q ihq =>
                intro j hjq hj
                cases hjL : memB L j with
                | false => exact down _ j (Nat.le_refl _) hj hjL
                | true =>
                  cases hun : listed.getD j true with
                  | true => exact bothT listed j hl (by omega) hun
                  | false =>
                    exfalso
                    refine hlate ⟨j, hjL, ready_iff.2 ⟨hun, init[j], by rw [hat j hj, List.getElem?_eq_getElem hj], fun x hx => ?_⟩⟩
                    have hlt : x < j := by have := (c1 j _ (List.getElem?_eq_getElem hj)).1 x hx; omega
                    exact ihq x (by omega) x (Nat.le_refl _) (by omega)
            intro j hj
            exact getD_both' (by omega) (all j j (Nat.le_refl _) hj)
        obtain ⟨f, hx, -, next⟩ := go i o hlt hi ho
        unfold wpOp
        rw [ho]
        simp only
        by_cases hwant : Region.wanted o (yielded ops a.tmps) = true
        · rw [if_pos hwant] at hx ⊢
          exact .inl (Oper.wp_mono (fun a' w' ⟨u, e, h1, h2, h3⟩ => by rw [e]; exact next u w' h1 h2 h3) hx)
        · rw [if_neg hwant] at hx ⊢
          exact next undef w (Gr w) hx.1 hx.2
  have hrep : ∀ i, (Array.replicate ops.size false).getD i false = false := by intro i; by_cases h : i < ops.size <;> simp [h]
  refine key ops.size _ a w0 (by simp) ?_ ?_ ha.size ha.defers (Gr w0) ?_ ha.slot (by rw [cntC_none (fun c _ => hrep c)]; exact hJ0) ?_
  · intro i o _ h0
    rw [hrep] at h0; cases h0
  · intro i _ h2
    simp [h2]
  · intro j d f _ h0
    simp only [hrep] at h0; cases h0
  · have : ∀ k, left (Array.replicate ops.size false) k ≤ k := by
      intro k
      induction k with
      | zero => exact Nat.le_refl _
      | succ k ih => unfold left; split <;> omega
    exact this _

end
section
variable {P : Program} {ops : Array Oper} {Q : Exit → Act → World → Prop} {n : Nat} {F0 : List (Nat × Value)} {G : World → World → Prop} {w0 : World} {CH : List Nat} {J : Nat → World → Prop} {L : List Nat} {B : Env → Prop} {k : Nat} {Γ : Env} {o : Oper} {r : List Oper} {v : Value} {f : Fact} {Φ : Value → World → Prop}
/-- An operation that leaves the world as it is. -/
theorem DJ.val (hp : posC CH k = none) (Gr : ∀ w, G w w) (hu : uniq Γ = true) (hrun : ∀ w, G w0 w → Runs P (evX [] F0 Γ o) o w v w) (hg : o.guard = none) (hr : DrJ P ops Q n F0 G w0 CH J L B (k + 1) r ((k, o.dst, .eq v) :: Γ)) (hl : memB L k = false := by rfl) : DrJ P ops Q n F0 G w0 CH J L B k (o :: r) Γ :=
  ⟨.eq v, trivial, (by
    intro a w c h1 h2 h3 h4 h5 h6
    rw [if_pos (by simp [Region.wanted, hg])]
    unfold Oper.wp
    rw [hrun w h2 a.eval (evX_spec hu h5 h6 (fun t v ht => by cases ht)), Oper.upon_value]
    refine ⟨v, rfl, Gr w, rfl, ?_⟩
    unfold nextC
    rw [hp]
    exact h3), (fun h => by rw [hl] at h; cases h), hr⟩
/-- The same, what it needs of the world being known by the chain's state. -/
theorem DJ.valJ (hp : posC CH k = none) (Gr : ∀ w, G w w) (hu : uniq Γ = true) (hrun : ∀ c w, G w0 w → J c w → Runs P (evX [] F0 Γ o) o w v w) (hg : o.guard = none) (hr : DrJ P ops Q n F0 G w0 CH J L B (k + 1) r ((k, o.dst, .eq v) :: Γ)) (hl : memB L k = false := by rfl) : DrJ P ops Q n F0 G w0 CH J L B k (o :: r) Γ :=
  ⟨.eq v, trivial, (by
    intro a w c h1 h2 h3 h4 h5 h6
    rw [if_pos (by simp [Region.wanted, hg])]
    unfold Oper.wp
    rw [hrun c w h2 h3 a.eval (evX_spec hu h5 h6 (fun t v ht => by cases ht)), Oper.upon_value]
    refine ⟨v, rfl, Gr w, rfl, ?_⟩
    unfold nextC
    rw [hp]
    exact h3), (fun h => by rw [hl] at h; cases h), hr⟩
theorem DJ.late (hp : posC CH k = none) (hl : memB L k = true) (hu : uniq Γ = true) (hrun : ∀ w, Runs P (evX [] F0 Γ o) o w v w) (Gr : ∀ w, G w w) (hg : o.guard = none) (hr : DrJ P ops Q n F0 G w0 CH J L B (k + 1) r ((k, o.dst, .eq v) :: Γ)) : DrJ P ops Q n F0 G w0 CH J L B k (o :: r) Γ :=
  ⟨.eq v, trivial, (by
    intro a w c h1 h2 h3 h4 h5 h6
    rw [if_pos (by simp [Region.wanted, hg])]
    unfold Oper.wp
    rw [hrun w a.eval (evX_spec hu h5 h6 (fun t v ht => by cases ht)), Oper.upon_value]
    refine ⟨v, rfl, Gr w, rfl, ?_⟩
    unfold nextC
    rw [hp]
    exact h3), (fun _ => ⟨v, rfl, fun a w _ _ _ h4 h5 h6 => .inl ⟨by simp [Region.wanted, hg], fun w' => hrun w' a.eval (evX_spec hu h4 h5 h6)⟩⟩), hr⟩
/-- A call of the chain. -/
theorem DJ.chain {fn : FuncId} {args : Array Value} (c : Nat) (hp : posC CH k = some c) (hu : uniq Γ = true) (he : ∀ w, Enters P (evX [] F0 Γ o) o w fn args) (hg : o.guard = none) (hc : ∀ w, G w0 w → J c w → Calls P fn args w fun e w' => e = .returned v ∧ G w w' ∧ J (c + 1) w')
    (hr : DrJ P ops Q n F0 G w0 CH J L B (k + 1) r ((k, o.dst, .eq v) :: Γ)) (hl : memB L k = false := by rfl) : DrJ P ops Q n F0 G w0 CH J L B k (o :: r) Γ :=
  ⟨.eq v, trivial, (by
    intro a w c2 h1 h2 h3 h4 h5 h6
    rw [if_pos (by simp [Region.wanted, hg])]
    obtain rfl := h4 c hp
    unfold Oper.wp
    rw [he w a.eval (evX_spec hu h5 h6 (fun t v ht => by cases ht)), Oper.upon_enter]
    exact (hc w h2 h3).mono fun e w' ⟨e1, e2, e3⟩ => by
      subst e1
      refine ⟨v, rfl, e2, rfl, ?_⟩
      unfold nextC
      rw [hp]
      exact e3), (fun h => by rw [hl] at h; cases h), hr⟩
/-- An operation that makes memory, or a call that leaves all there is. -/
theorem DJ.of (hp : posC CH k = none) (hGG : ∀ w w', Grow w w' → G w w') (hJ : ∀ c w w', Grow w w' → J c w → J c w') (hs : Fact.Stable G f) (h : ∀ w, G w0 w → DrW P ops Q n F0 Grow w L (fun Γ' => Γ' = (k, o.dst, f) :: Γ) k [o] Γ)
    (hr : DrJ P ops Q n F0 G w0 CH J L B (k + 1) r ((k, o.dst, f) :: Γ)) (hl : memB L k = false := by rfl) : DrJ P ops Q n F0 G w0 CH J L B k (o :: r) Γ :=
  ⟨f, hs, (by
    intro a w c h1 h2 h3 h4 h5 h6
    obtain ⟨f', -, hst, -, hB⟩ := h w h2
    have hf : f' = f := by
      have hB' : (k, o.dst, f') :: Γ = (k, o.dst, f) :: Γ := hB
      injection hB' with hB' _
      injection hB' with _ hB'
      injection hB'
    subst hf
    have hx := hst a w h1 (Grow.refl w) trivial h5 h6 (fun t v ht => by cases ht)
    have hn : nextC CH k c = c := by unfold nextC; rw [hp]
    rw [hn]
    split
    · rename_i hw
      rw [if_pos hw] at hx
      exact Oper.wp_mono (fun a' w' ⟨u, e, g1, g2⟩ => ⟨u, e, hGG _ _ g1, g2, hJ _ _ _ g1 h3⟩) hx
    · rename_i hw
      rw [if_neg hw] at hx
      exact ⟨hx, h3⟩), (fun h => by rw [hl] at h; cases h), hr⟩
theorem DJ.nil (h : B Γ) : DrJ P ops Q n F0 G w0 CH J L B k [] Γ := h
/-- A region that draws, with a chain. -/
theorem Cd.drawJ (m : Nat) {id : Nat} {l : List Oper} {w : World} (hm : P.follows .mixedOrders = true) (L CH : List Nat) (hLC : ∀ i, memB L i = true → posC CH i = none) (hCH : chkChain (l.take m) CH = true) (hCl : ltAll (l.take m).length CH = true) (hQ : L = [] ∨ ∀ c (a : Act) d v w, Q (.panic c) (a.put d v) w → Q (.panic c) a w) (hchk : chkAll n (keysOf F0) L (l.take m) (l.drop m) = true) (G : World → World → Prop) (Gr : ∀ w, G w w) (Gt : ∀ a b c, G a b → G b c → G a c) (J : Nat → World → Prop)
    (h : ∀ w0, Below w.heap.size w w0 → w0.heap.size = w.heap.size → J 0 w0 ∧ DrJ P l.toArray Q n F0 G w0 CH J L (FinX P l.toArray Q n F0 G w0 (l.drop m) [] (fun w => J CH.length w)) 0 (l.take m) []) : Cd P (.region id l.toArray true) Q n F0 w := fun _ ha =>
  wp_drawJ L hLC hCH hCl hQ hm (by rw [List.take_append_drop]) hchk Gt Gr rfl (h { w with drawn := w.drawn + 1 } ⟨rfl, rfl, rfl, Nat.le_refl _, fun _ _ => rfl⟩ rfl).1 (h { w with drawn := w.drawn + 1 } ⟨rfl, rfl, rfl, Nat.le_refl _, fun _ _ => rfl⟩ rfl).2 ha
end
end Go.Proofs.YtefpejnmhlhnkaaGreatDoor
