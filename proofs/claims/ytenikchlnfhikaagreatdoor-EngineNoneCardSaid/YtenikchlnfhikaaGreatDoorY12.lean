/-
  Texts that were joined: GrA. Conditions: what each theorem names.
-/
import Derived.JoinedOf
import GoSem.ClaimGoes
import Derived.KernelRfl
set_option linter.unusedSectionVars false
set_option linter.unusedVariables false
set_option linter.unusedSimpArgs false
namespace Go.Proofs.YtenikchlnfhikaaGreatDoor
open Go

/-! ### A type's book -/
theorem grown_fix {P : Program} {S : List TypeId} (h : P.grow S = S) : ∀ n, P.grown n S = S
  | 0 => rfl
  | n + 1 => by
    show P.grown n (P.grow S) = S
    rw [h]
    exact grown_fix h n
theorem grown_add {P : Program} : ∀ (k m : Nat) (s : List TypeId), P.grown (k + m) s = P.grown m (P.grown k s)
  | 0, m, s => by rw [Nat.zero_add]; rfl
  | k + 1, m, s => by
    rw [show k + 1 + m = (k + m) + 1 by omega]
    show P.grown (k + m) (P.grow s) = _
    rw [grown_add k m]
    rfl
theorem book_of {P : Program} {t : TypeId} {S : List TypeId} (k m : Nat) (hs : P.types.size = k + m) (h1 : P.grown k [t] = S) (h2 : P.grow S = S) : P.book t = S := by
  unfold Program.book
  rw [hs, grown_add, h1, grown_fix h2]
theorem any_congr {α : Type} {l : List α} {p q : α → Bool} (h : ∀ x ∈ l, p x = q x) : l.any p = l.any q := by
  induction l with
  | nil => rfl
  | cons a r ih =>
    rw [List.any_cons, List.any_cons, h a (List.mem_cons_self ..), ih fun x hx => h x (List.mem_cons_of_mem _ hx)]
theorem any_false' {α : Type} {l : List α} {p : α → Bool} (h : ∀ x ∈ l, p x = false) : l.any p = false := by
  rw [any_congr (q := fun _ => false) h]
  induction l with
  | nil => rfl
  | cons a r ih => simp
/-- What the facts ask of a type of plain data. -/
structure Tame (P : Program) (t : TypeId) : Prop where
  read : P.readableRec t = true
  loops : P.loopsFrom t = false
  maps : P.mapsRec t = false
  ifaces : P.ifacesRec t = false
  wide : P.wideKeysFrom t = false
  veil : P.veiledRec t = false
theorem veil_of {P : Program} {t : TypeId} {S : List TypeId} (hb : P.book t = S) (h : (S.any fun u => match P.underlying u with | some (.func ..) | some (.chan ..) | some .unsafePointer => true | _ => false) = false) : P.veiledRec t = false := by
  unfold Program.veiledRec
  rw [hb]
  exact h
theorem own_of {P : Program} {t : TypeId} (h : P.veiledRec t = false) : P.veiledOwn t = true := by
  unfold Program.veiledOwn
  rw [h]
  rfl
theorem tame_of {P : Program} {B : TypeId → List TypeId} {A : List TypeId} (hB : ∀ v ∈ A, P.book v = B v) {t : TypeId} (ht : t ∈ A)
    (h0 : ((B t).all fun u => (P.partsOf u).all (A.contains ·)) = true)
    (h1 : ((B t).all fun u => P.fineRow u && (P.partsOf u).all ((B t).contains ·)) = true)
    (h2 : ((B t).any fun u => (P.partsOf u).any fun v => (B v).contains u) = false)
    (h3 : ((B t).any fun u => match P.underlying u with | some (.map _ _) => true | _ => false) = false)
    (h4 : ((B t).any fun u => match P.underlying u with | some (.interface _) => true | _ => false) = false)
    (h5 : ((B t).any fun u => match P.underlying u with | some (.map k _) => (match P.underlying k with | some (.array _ _) | some (.struct _) => true | _ => false) | _ => false) = false)
    (h6 : ((B t).any fun u => match P.underlying u with | some (.func ..) | some (.chan ..) | some .unsafePointer => true | _ => false) = false) : Tame P t := by
  have hb := hB t ht
  refine ⟨?_, ?_, ?_, ?_, ?_, veil_of hb h6⟩
  · unfold Program.readableRec
    rw [hb]
    exact h1
  · unfold Program.loopsFrom
    rw [hb, ← h2]
    refine any_congr fun u hu => any_congr fun v hv => ?_
    have := List.all_eq_true.1 (List.all_eq_true.1 h0 u hu) v hv
    rw [hB v (by simpa using this)]
  · unfold Program.mapsRec
    rw [hb]
    exact h3
  · unfold Program.ifacesRec
    rw [hb]
    exact h4
  · unfold Program.wideKeysFrom
    rw [hb]
    exact h5

/-! ### The calls' closure -/
noncomputable def gcd_ {α : Type} (b : Bool) (x y : α) : α := @Bool.rec (fun _ => α) y x b
noncomputable def nthE (l : List (List Nat)) : Nat → List Nat := @List.rec (List Nat) (fun _ => Nat → List Nat) (fun _ => []) (fun a _ ih n => @Nat.rec (fun _ => List Nat) a (fun m _ => ih m) n) l
noncomputable def apE (l r : List Nat) : List Nat := @List.rec Nat (fun _ => List Nat) r (fun a _ ih => a :: ih) l
noncomputable def clo (E : Nat → List Nat) (n : Nat) : List Nat → Nat → List Nat → List Nat :=
  @Nat.rec (fun _ => List Nat → Nat → List Nat → List Nat) (fun _ _ acc => acc.reverse)
    (fun _ ih todo mask acc => @List.rec Nat (fun _ => List Nat) acc.reverse
      (fun f r _ => gcd_ (Nat.beq (Nat.land (Nat.shiftRight mask f) 1) 1) (ih r mask acc) (ih (apE (E f) r) (Nat.lor mask (Nat.shiftLeft 1 f)) (f :: acc))) todo) n
theorem nthE_eq : ∀ (l : List (List Nat)) (n : Nat), nthE l n = l.getD n []
  | [], n => rfl
  | a :: r, 0 => rfl
  | a :: r, n + 1 => (nthE_eq r n).trans (by simp)
theorem apE_eq : ∀ (l r : List Nat), apE l r = l ++ r
  | [], r => rfl
  | a :: l, r => congrArg (a :: ·) (apE_eq l r)
theorem bit_eq (m f : Nat) : Nat.beq (Nat.land (Nat.shiftRight m f) 1) 1 = m.testBit f := by
  rw [show Nat.land (Nat.shiftRight m f) 1 = (m >>> f) &&& 1 from rfl, Nat.testBit, Nat.and_comm 1]
  have h : m >>> f &&& 1 = 0 ∨ m >>> f &&& 1 = 1 := by
    rw [Nat.and_one_is_mod]
    omega
  rcases h with h | h <;> rw [h] <;> rfl
theorem via_eq {P : Program} {E : Nat → List Nat} (hE : ∀ f, (P.funcs[f]?).elim [] P.leadsTo = E f) : ∀ (n : Nat) (todo seen : List Nat) (mask : Nat), (∀ x, mask.testBit x = seen.contains x) → P.closureVia n todo seen = clo E n todo mask seen
  | 0, todo, seen, mask, h => by cases todo <;> rfl
  | n + 1, [], seen, mask, h => rfl
  | n + 1, f :: todo, seen, mask, h => by
    show (if seen.contains f then P.closureVia n todo seen else P.closureVia n ((P.funcs[f]?).elim [] P.leadsTo ++ todo) (f :: seen)) =
      gcd_ (Nat.beq (Nat.land (Nat.shiftRight mask f) 1) 1) (clo E n todo mask seen) (clo E n (apE (E f) todo) (Nat.lor mask (Nat.shiftLeft 1 f)) (f :: seen))
    rw [bit_eq, h f]
    cases hc : seen.contains f with
    | true =>
      rw [if_pos rfl]
      exact via_eq hE n todo seen mask h
    | false =>
      rw [if_neg (by simp)]
      show _ = clo E n (apE (E f) todo) (Nat.lor mask (Nat.shiftLeft 1 f)) (f :: seen)
      rw [hE, apE_eq]
      refine via_eq hE n _ _ _ fun x => ?_
      rw [show Nat.lor mask (Nat.shiftLeft 1 f) = mask ||| (1 <<< f) from rfl, Nat.testBit_or, h x, Nat.shiftLeft_eq, Nat.one_mul, Nat.testBit_two_pow, List.contains_cons]
      rw [Bool.or_comm]
      congr 1
      by_cases e : f = x
      · subst e; simp
      · simp [e, Ne.symm e]
theorem closure_of {P : Program} {T : List (List Nat)} (hT : P.funcs.toList.map P.leadsTo = T) (f : Nat) : P.closure f = clo (nthE T) (1 + (T.map fun l => l.length + 1).sum) [f] 0 [] := by
  unfold Program.closure
  have e : (P.funcs.toList.map fun g => (P.leadsTo g).length + 1) = T.map fun l => l.length + 1 := by
    rw [← hT, List.map_map]
    rfl
  rw [e]
  refine via_eq (fun f => ?_) _ _ _ _ fun x => by simp
  rw [nthE_eq, ← hT, List.getD_eq_getElem?_getD, List.getElem?_map, Array.getElem?_toList]
  cases P.funcs[f]? <;> rfl
theorem map_parts {α β : Type} {g : α → β} {l : List α} {T1 T2 T3 T4 : List β} (n : Nat) (h1 : (l.take n).map g = T1) (h2 : ((l.drop n).take n).map g = T2) (h3 : ((l.drop (2 * n)).take n).map g = T3) (h4 : (l.drop (3 * n)).map g = T4) : l.map g = T1 ++ (T2 ++ (T3 ++ T4)) := by
  rw [← h1, ← h2, ← h3, ← h4, ← List.map_append, ← List.map_append, ← List.map_append]
  congr 1
  have e2 : l.drop (2 * n) = (l.drop n).drop n := by
    rw [List.drop_drop]
    congr 1
    omega
  have e3 : l.drop (3 * n) = ((l.drop n).drop n).drop n := by
    rw [List.drop_drop, List.drop_drop]
    congr 1
    omega
  rw [e2, e3]
  simp only [List.take_append_drop]
theorem all_parts {l : List Func} (n : Nat) (h1 : (l.take n).all (fun fn => !fn.goes) = true) (h2 : ((l.drop n).take n).all (fun fn => !fn.goes) = true) (h3 : ((l.drop (2 * n)).take n).all (fun fn => !fn.goes) = true) (h4 : (l.drop (3 * n)).all (fun fn => !fn.goes) = true) : ∀ fn ∈ l, fn.goes = false := fun fn hm => by
  have e : l = l.take n ++ ((l.drop n).take n ++ ((l.drop (2 * n)).take n ++ l.drop (3 * n))) := by
    have := map_parts (g := id) (l := l) n (T1 := l.take n) (T2 := (l.drop n).take n) (T3 := (l.drop (2 * n)).take n) (T4 := l.drop (3 * n)) (by simp) (by simp) (by simp) (by simp)
    simpa using this
  rw [e] at hm
  simp only [List.mem_append] at hm
  have g : ∀ {r : List Func}, r.all (fun fn => !fn.goes) = true → fn ∈ r → fn.goes = false := fun h hm => by simpa using List.all_eq_true.1 h fn hm
  rcases hm with h | h | h | h
  · exact g h1 h
  · exact g h2 h
  · exact g h3 h
  · exact g h4 h
theorem goes_of {P : Program} {c : OpenClaim} {f : FuncId} (h : ∀ fn ∈ P.funcs.toList, fn.goes = false) (cs : c.start = .entering) (hn : P.funcNamed c.func = some f) : false = c.goesBy P := by
  unfold OpenClaim.goesBy Program.goesAt Program.goesFrom
  rw [hn, cs]
  have hg : ∀ g : FuncId, (P.funcs[g]?).any Func.goes = false := fun g => by
    cases hx : P.funcs[g]? with
    | none => rfl
    | some fn =>
      have hm : fn ∈ P.funcs.toList := by
        have := Array.mem_of_getElem? hx
        simpa using this
      exact h fn hm
  have h2 : P.funcs.any Func.goes = false := by
    rw [← Array.any_toList]
    exact any_false' h
  show false = (P.goes f || false)
  unfold Program.goes
  rw [h2, Bool.and_false, Bool.or_false, Bool.or_false]
  exact (any_false' fun g _ => hg g).symm
theorem inPlace_of {P : Program} {f : FuncId} {L : List FuncId} {names : List String} (hL : P.closure f = L) (hn : ∀ fn ∈ P.funcs.toList, (fn.name == "runtime.NumGoroutine") = false)
    (h : (L.filterMap fun g => (P.funcs[g]?).bind fun fn => if fn.ours || fn.body.isNone then some fn.name else none) = names) : P.inPlace f = names := by
  unfold Program.inPlace
  rw [hL, ← h]
  congr 1
  funext g
  cases hg : P.funcs[g]? with
  | none => rfl
  | some fn =>
    have hm : fn ∈ P.funcs.toList := by
      have := Array.mem_of_getElem? hg
      simpa using this
    simp only [Option.bind_some, hn fn hm, Bool.or_false]
theorem unfollowed_of {P : Program} {f g : FuncId} {L : List FuncId} (hL : P.closure f = L) (hg : L.contains g = true) (h : ((P.funcs[g]?).any fun fn => match fn.body with | some c => c.unfollowed | none => entryCalls fn) = true) : P.unfollowed f = true := by
  unfold Program.unfollowed
  rw [hL]
  exact List.any_eq_true.2 ⟨g, by simpa using hg, h⟩
theorem recurses_of {P : Program} {f : FuncId} (h : P.unfollowed f = true) : P.recurses f = true := by
  unfold Program.recurses
  rw [h]
  rfl
theorem varsNamed_of {P : Program} {f : FuncId} {L : List FuncId} {names : List String} (hL : P.closure f = L)
    (h : ((((L.flatMap fun g => ((P.funcs[g]?).bind (·.body)).elim [] Code.globalsNamed).eraseDups).filterMap (fun g => (P.globals[g]?).map (·.name)) ++
   L.filterMap fun g => (P.funcs[g]?).bind fun fn => if fn.body.isNone then entryReads.lookup fn.name else none).eraseDups) = names) : P.varsNamed f = names := by
  unfold Program.varsNamed
  rw [hL]
  exact h

/-! ### The facts, one by one -/
theorem laidOut_of {P : Program} (h1 : ∀ t, t < P.types.size → rowFine P t = true) (h2 : P.globals.all (fun g => decide (g.type < P.types.size)) = true) (h3 : P.funcs.all (fun f => f.params.all fun t => decide (t < P.types.size)) = true) : laidOutB P = true := by
  unfold laidOutB
  rw [h2, h3, Bool.and_true, Bool.and_true]
  exact List.all_eq_true.2 fun t ht => h1 t (by simpa using ht)
theorem upto_of {p : Nat → Bool} (lo k : Nat) (h : ((List.range' lo k).all p) = true) : ∀ t, lo ≤ t → t < lo + k → p t = true := fun t h1 h2 =>
  List.all_eq_true.1 h t (by rw [List.mem_range'_1]; omega)
theorem ba {a b : Bool} (ha : a = true) (hb : b = true) : (a && b) = true := by rw [ha, hb]; rfl
theorem joined_of {P : Program} {f : FuncId} {fn : Func} {s : ChangeSpec} {c : OpenClaim}
    (h1 : c.wf (OpenSpec.ofChange s) = true) (h2 : laidOutB P = true) (h3 : mapsRowed P = true) (h4 : fn.params.all (P.readableRec ·) = true) (h5 : namedTie P c.named s.vars = true)
    (h6 : (c.stops == []) = true) (h7 : (P.stops == []) = true) (h8 : (c.knobs == []) = true) (h9 : (P.stopKnobs == []) = true)
    (h10 : (c.inPlace == P.inPlace f) = true) (h11 : (c.unfollowed == P.unfollowed f) = true) (h12 : (c.recurses == P.recurses f) = true) (h13 : (c.named == P.varsNamed f) = true)
    (h14 : (c.maps == (fn.params.toList ++ s.plain.varTypes P).any (P.mapsRec ·)) = true) (h15 : (c.ifaces == (fn.params.toList ++ s.plain.varTypes P).any (P.ifacesRec ·)) = true) (h16 : (c.mapsOut == P.mapsAmong fn.resultTypes.toList) = true)
    (h17 : (c.loops == (fn.params.toList ++ s.plain.varTypes P).any (P.loopsFrom ·)) = true) (h18 : (c.wideKeys == (fn.params.toList ++ s.plain.varTypes P ++ fn.resultTypes.toList).any (P.wideKeysFrom ·)) = true)
    (h19 : s.vars.all (P.varReadable ·) = true) (h20 : fn.resultTypes.all (fun t => P.readableRec t && decide (t < P.types.size)) = true) (h21 : (c.ifacesOut == fn.resultTypes.toList.any (P.ifacesRec ·)) = true) (h22 : (c.loopsOut == fn.resultTypes.toList.any (P.loopsFrom ·)) = true)
    (h23 : (c.plainKeys == P.plainKeys) = true) (h24 : c.shortTexts.isNone = true) (h25 : P.stopsHeard = true) (h26 : P.mayEnter = true) (h27 : (c.lifted == P.liftsFinal) = true) (h28 : (P.make == some c.make) = true)
    (h29 : (c.kinds == (if c.domain.isEmpty then [] else fn.params.toList.map fun t => match P.underlying t with | some (.int k) => some k | _ => none)) = true) (h30 : (c.pinned == c.pinnedBy) = true)
    (h31 : (c.veiled == (fn.params.toList ++ s.plain.varTypes P ++ fn.resultTypes.toList).any (P.veiledRec ·)) = true) (h32 : c.veiledFits P fn.params.toList (fn.params.toList ++ s.plain.varTypes P ++ fn.resultTypes.toList) = true) : joinedFacts P f fn s c = true := by
  exact ba (ba (ba (ba (ba (ba (ba (ba (ba (ba (ba (ba (ba (ba (ba (ba (ba (ba (ba (ba (ba (ba (ba (ba (ba (ba (ba (ba (ba (ba (ba h1 h2) h3) h4) h5) h6) h7) h8) h9) h10) h11) h12) h13) h14) h15) h16) h17) h18) h19) h20) h21) h22) h23) h24) h25) h26) h27) h28) h29) h30) h31) h32
theorem any_false {α : Type} {l : List α} {p : α → Bool} (h : ∀ x ∈ l, p x = false) : l.any p = false := by
  rw [any_congr (q := fun _ => false) h]
  induction l with
  | nil => rfl
  | cons a r ih => simp
theorem joined_plain {P : Program} {f : FuncId} {fn : Func} {s : ChangeSpec} {c : OpenClaim} {ps rs ls : List TypeId}
    (hps : fn.params.toList = ps) (hvt : s.plain.varTypes P = []) (hrs : fn.resultTypes.toList = rs) (hp : ∀ t ∈ ps, Tame P t) (hr : ∀ t ∈ rs, Tame P t ∧ t < P.types.size)
    (cm : c.maps = false) (ci : c.ifaces = false) (cl : c.loops = false) (cw : c.wideKeys = false) (cio : c.ifacesOut = false) (clo_ : c.loopsOut = false) (cv : c.veiled = false)
    (cs : c.start = .entering) (hls : (c.laid.filterMap fun x => (P.globalNamed x.1).bind fun g => (P.globals[g]?).map (·.type)) = ls) (hl : ∀ t ∈ ls, P.veiledRec t = false)
    (h1 : c.wf (OpenSpec.ofChange s) = true) (h2 : laidOutB P = true) (h3 : mapsRowed P = true) (h5 : namedTie P c.named s.vars = true)
    (h6 : (c.stops == []) = true) (h7 : (P.stops == []) = true) (h8 : (c.knobs == []) = true) (h9 : (P.stopKnobs == []) = true)
    (h10 : P.inPlace f = c.inPlace) (h11 : c.unfollowed = true) (h12 : c.recurses = true) (hu : P.unfollowed f = true) (h13 : P.varsNamed f = c.named)
    (h16 : (c.mapsOut == P.mapsAmong fn.resultTypes.toList) = true) (h19 : s.vars.all (P.varReadable ·) = true)
    (h23 : (c.plainKeys == P.plainKeys) = true) (h24 : c.shortTexts.isNone = true) (h25 : P.stopsHeard = true) (h26 : P.mayEnter = true) (h27 : (c.lifted == P.liftsFinal) = true) (h28 : (P.make == some c.make) = true)
    (h29 : (c.kinds == (if c.domain.isEmpty then [] else fn.params.toList.map fun t => match P.underlying t with | some (.int k) => some k | _ => none)) = true) (h30 : (c.pinned == c.pinnedBy) = true) : joinedFacts P f fn s c = true := by
  have hall : ∀ t ∈ ps ++ [] ++ rs, Tame P t := fun t ht => by
    rw [List.append_nil] at ht
    rcases List.mem_append.1 ht with h | h
    · exact hp t h
    · exact (hr t h).1
  refine joined_of h1 h2 h3 ?_ h5 h6 h7 h8 h9 ?_ ?_ ?_ ?_ ?_ ?_ h16 ?_ ?_ h19 ?_ ?_ ?_ h23 h24 h25 h26 h27 h28 h29 h30 ?_ ?_
  · rw [← Array.all_toList, hps]
    exact List.all_eq_true.2 fun t ht => (hp t ht).read
  · rw [h10]
    exact beq_self_eq_true _
  · rw [h11, hu]
    rfl
  · rw [h12, recurses_of hu]
    rfl
  · rw [h13]
    exact beq_self_eq_true _
  · rw [cm, hps, hvt, List.append_nil, any_false fun t ht => (hp t ht).maps]
    rfl
  · rw [ci, hps, hvt, List.append_nil, any_false fun t ht => (hp t ht).ifaces]
    rfl
  · rw [cl, hps, hvt, List.append_nil, any_false fun t ht => (hp t ht).loops]
    rfl
  · rw [cw, hps, hvt, hrs, any_false fun t ht => (hall t ht).wide]
    rfl
  · rw [← Array.all_toList, hrs]
    exact List.all_eq_true.2 fun t ht => by rw [(hr t ht).1.read, decide_eq_true (hr t ht).2]; rfl
  · rw [cio, hrs, any_false fun t ht => (hr t ht).1.ifaces]
    rfl
  · rw [clo_, hrs, any_false fun t ht => (hr t ht).1.loops]
    rfl
  · rw [cv, hps, hvt, hrs, any_false fun t ht => (hall t ht).veil]
    rfl
  · unfold OpenClaim.veiledFits
    rw [cs, hps, hvt, hrs, hls]
    refine ba rfl ?_
    refine Bool.or_eq_true _ _ |>.mpr (.inl (List.all_eq_true.2 fun t ht => own_of ?_))
    rcases List.mem_append.1 ht with h | h
    · exact (hall t h).veil
    · exact hl t h
end Go.Proofs.YtenikchlnfhikaaGreatDoor
