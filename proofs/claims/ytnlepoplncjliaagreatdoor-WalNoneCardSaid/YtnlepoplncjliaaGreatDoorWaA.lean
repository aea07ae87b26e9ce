/-
  A map from texts to pointers, as a list: looking up, laying, deleting, counting. No condition.
-/
import Derived.Test.YtnlepoplncjliaaGreatDoorKI
import Derived.MapKept
import Derived.WideMake
namespace Go.Proofs.YtnlepoplncjliaaGreatDoor
open Go.RowKit Go.MapKept

/-- An entry's key and value. -/
def kv (p : List Nat × Nat) : Value × Value := (.string (strOf p.1), .pointer (some ⟨p.2, 0, none⟩))
/-- A block that is a map: names, and whereto they point. -/
structure Mp (w : World) (m : Nat) (l : List (List Nat × Nat)) : Prop where
  ex : ∃ es clk, w.heap[m]? = some (.map es clk) ∧ Stamped es clk ∧ es.toList.map (fun x => (x.key, x.val)) = l.map kv
  small : ∀ p ∈ l, ∀ c ∈ p.1, c < 256
/-- Where a name points. -/
def lk (l : List (List Nat × Nat)) (nm : List Nat) : Option Nat := (l.find? (fun p => decide (p.1 = nm))).map (·.2)
def lkV (l : List (List Nat × Nat)) (nm : List Nat) : Value := .pointer ((lk l nm).map fun b => ⟨b, 0, none⟩)
/-- A name that points elsewhere from now on. -/
def upd (l : List (List Nat × Nat)) (nm : List Nat) (b : Nat) : List (List Nat × Nat) := if (lk l nm).isSome then l.map (fun p => if p.1 = nm then (nm, b) else p) else l ++ [(nm, b)]
/-- Without a name. -/
def del (l : List (List Nat × Nat)) (nm : List Nat) : List (List Nat × Nat) := l.filter (fun p => decide (p.1 ≠ nm))
theorem lk_none {l : List (List Nat × Nat)} {nm : List Nat} (h : ∀ p ∈ l, p.1 ≠ nm) : lk l nm = none := by
  unfold lk
  rw [List.find?_eq_none.2 (fun p hp => by simpa using h p hp)]
  rfl
theorem lk_some {l : List (List Nat × Nat)} {nm : List Nat} {j : Nat} {p : List Nat × Nat} (hd : (l.map (·.1)).Nodup) (h : l[j]? = some p) (e : p.1 = nm) : lk l nm = some p.2 := by
  unfold lk
  have : l.find? (fun q => decide (q.1 = nm)) = some p := by
    rw [List.find?_eq_some_iff_append]
    refine ⟨by simpa using e, l.take j, l.drop (j + 1), (cut_at' h), fun a ha => ?_⟩
    simp only [Bool.not_eq_eq_eq_not, Bool.not_true, decide_eq_false_iff_not]
    intro e2
    obtain ⟨i, hi, rfl⟩ := List.getElem_of_mem ha
    rw [List.length_take] at hi
    obtain ⟨hj, hjp⟩ := List.getElem?_eq_some_iff.1 h
    have h1 : (l.map (·.1))[i]? = (l.map (·.1))[j]? := by
      rw [List.getElem?_map, List.getElem?_map, h, List.getElem?_eq_getElem (by omega)]
      simp only [Option.map_some]
      rw [List.getElem_take] at e2
      rw [e2, e]
    have := (List.getElem?_inj (by rw [List.length_map]; omega) hd).1 h1
    omega
  rw [this]
  rfl
where
  cut_at' {l : List (List Nat × Nat)} {j : Nat} {p : List Nat × Nat} (h : l[j]? = some p) : l = l.take j ++ p :: l.drop (j + 1) := by
    obtain ⟨hj, hjp⟩ := List.getElem?_eq_some_iff.1 h
    rw [← hjp, ← List.drop_eq_getElem_cons hj, List.take_append_drop]
section
variable {w w' : World} {m : Nat} {l : List (List Nat × Nat)}
theorem kv_key {es : Array MapEntry} (h : es.toList.map (fun x => (x.key, x.val)) = l.map kv) : es.toList.map (·.key) = l.map (fun p => Value.string (strOf p.1)) := by
  have := congrArg (List.map Prod.fst) h
  rwa [List.map_map, List.map_map] at this
theorem kv_get {es : Array MapEntry} (h : es.toList.map (fun x => (x.key, x.val)) = l.map kv) (j : Nat) : (es.toList[j]?).map (fun x => (x.key, x.val)) = (l[j]?).map kv := by
  rw [← List.getElem?_map, h, List.getElem?_map]
theorem kv_isKey {es : Array MapEntry} (h : es.toList.map (fun x => (x.key, x.val)) = l.map kv) : ∀ x ∈ es.toList, IsKey .string x.key := by
  intro x hx
  have : x.key ∈ es.toList.map (·.key) := List.mem_map.2 ⟨x, hx, rfl⟩
  rw [kv_key h] at this
  obtain ⟨p, -, e⟩ := List.mem_map.1 this
  rw [← e]
  simp [IsKey]
theorem Mp.nodup (h : Mp w m l) : (l.map (·.1)).Nodup := by
  obtain ⟨es, clk, -, hs, hk⟩ := h.ex
  have h2 := hs.2.2
  rw [kv_key hk] at h2
  have : l.map (fun p => Value.string (strOf p.1)) = (l.map (·.1)).map (fun n => Value.string (strOf n)) := by rw [List.map_map]; rfl
  rw [this] at h2
  exact (List.pairwise_map.1 h2).imp fun hne e => hne (by rw [e])
theorem Mp.step (h : Mp w m l) (hb : Below w.heap.size w w') : Mp w' m l := by
  obtain ⟨es, clk, h1, h2⟩ := h.ex
  exact ⟨⟨es, clk, (hb.block m (Array.getElem?_eq_some_iff.1 h1).1).trans h1, h2⟩, h.small⟩
theorem Mp.lt (h : Mp w m l) : m < w.heap.size := by
  obtain ⟨es, clk, h1, h2⟩ := h.ex
  exact (Array.getElem?_eq_some_iff.1 h1).1
theorem Mp.grown {row : Option Nat} (h : Mp w m l) (hg : w.grownBy w' row) (hne : row ≠ some m) : Mp w' m l := by
  obtain ⟨es, clk, h1, h2⟩ := h.ex
  exact ⟨⟨es, clk, (hg.block m h.lt (fun e => hne e.symm)).trans h1, h2⟩, h.small⟩
theorem Mp.ne {g : Nat} {T : TypeId} {cs : Array Value} (h : Mp w m l) (k : Blk w g T cs) : m ≠ g := by
  rintro rfl
  obtain ⟨es, clk, h1, h2⟩ := h.ex
  have : w.heap[m]? = some (.cells cs T) := k
  rw [h1] at this
  cases this
theorem Mp.put {g B : Nat} {T : TypeId} {cur cs : Array Value} (h : Mp w m l) (k : Blk w g T cur) (p : Put w w' g T cs) (_e : B ≤ g) : Mp w' m l := h.grown p.grown (fun e => h.ne k (by injection e with e; exact e.symm))
/-- The find in the model's words. -/
theorem Mp.find {es : Array MapEntry} {clk : Nat} {nm : List Nat} (hs : Stamped es clk) (hk : es.toList.map (fun x => (x.key, x.val)) = l.map kv) (hsm : ∀ p ∈ l, ∀ c ∈ p.1, c < 256) (hn : ∀ c ∈ nm, c < 256) :
    (Instr.findNow .string (.string (strOf nm)) es.toList 0 = some none ∧ (∀ x ∈ es.toList, x.key ≠ .string (strOf nm)) ∧ lk l nm = none ∧ ∀ p ∈ l, p.1 ≠ nm) ∨
    ∃ j p, Instr.findNow .string (.string (strOf nm)) es.toList 0 = some (some (j, .pointer (some ⟨p.2, 0, none⟩))) ∧ l[j]? = some p ∧ p.1 = nm ∧ lk l nm = some p.2 := by
  have hdup : (l.map (·.1)).Nodup := by
    have h2 := hs.2.2
    rw [kv_key hk] at h2
    have : l.map (fun p => Value.string (strOf p.1)) = (l.map (·.1)).map (fun n => Value.string (strOf n)) := by rw [List.map_map]; rfl
    rw [this] at h2
    exact (List.pairwise_map.1 h2).imp fun hne e => hne (by rw [e])
  rcases findNow_spec (d := .string) (k := .string (strOf nm)) (by simp [IsKey]) es.toList 0 (kv_isKey hk) with ⟨h1, h2⟩ | ⟨j, e, h1, h2, h3⟩
  · have hne : ∀ p ∈ l, p.1 ≠ nm := by
      intro p hp e
      have : Value.string (strOf p.1) ∈ es.toList.map (·.key) := by rw [kv_key hk]; exact List.mem_map.2 ⟨p, hp, rfl⟩
      obtain ⟨x, hx, e2⟩ := List.mem_map.1 this
      exact h2 x hx (by rw [e2, e])
    exact .inl ⟨h1, h2, lk_none hne, hne⟩
  · right
    have h4 := kv_get hk j
    rw [h2] at h4
    cases hp : l[j]? with
    | none => rw [hp] at h4; cases h4
    | some p =>
      rw [hp] at h4
      simp only [Option.map_some, Option.some.injEq, kv, Prod.mk.injEq] at h4
      have e1 : p.1 = nm := by
        rw [h3] at h4
        have := h4.1
        injection this with this
        exact (strOf_inj hn (hsm p (List.mem_of_getElem? hp)) this).symm
      refine ⟨j, p, ?_, hp, e1, lk_some hdup hp e1⟩
      rw [h1, h4.2, Nat.zero_add]
/-- Looking up. -/
theorem Mp.look {P : Program} {t k e : TypeId} {nm : List Nat} {b : Bool} (h : Mp w m l) (ht : P.underlying t = some (.map k e)) (hk : P.underlying k = some .string) (hz : zeroIs P e = some (some (.pointer none))) (hn : ∀ c ∈ nm, c < 256) :
    (Instr.lookup t (.map (some m)) (.string (strOf nm)) b).run P w = .ok (if b then .tuple #[lkV l nm, .bool (lk l nm).isSome] else lkV l nm) w := by
  obtain ⟨es, clk, h1, h2, h3⟩ := h.ex
  have hc : ∀ em, (Instr.checkKey em 10000 k (.string (strOf nm))).run P w = .ok () w := fun em => MapKept.run_checkKey (k := .string (strOf nm)) hk (by simp [IsKey]) em 9999
  have hz' := run_zero hz w
  rcases Mp.find h2 h3 h.small hn with ⟨h4, -, h5, -⟩ | ⟨j, p, h4, h5, h6, h7⟩
  · simp only [Instr.lookup, Sem.run_bind, run_underlying ht, Result.andThen_ok, MapKept.run_getObj_map h1, hc, MapKept.run_findKey hk h4, Sem.run_pure, hz', lkV, h5]
    cases b <;> rfl
  · simp only [Instr.lookup, Sem.run_bind, run_underlying ht, Result.andThen_ok, MapKept.run_getObj_map h1, hc, MapKept.run_findKey hk h4, Sem.run_pure, lkV, h7]
    cases b <;> rfl
/-- The world behind a map's change. -/
structure PutM (w w' : World) (m : Nat) (l : List (List Nat × Nat)) : Prop where
  mp : Mp w' m l
  grown : w.grownBy w' (some m)
  size : w'.heap.size = w.heap.size
  was : ∃ es clk, w.heap[m]? = some (.map es clk)
theorem put_map {es es' : Array MapEntry} {clk clk' : Nat} {l' : List (List Nat × Nat)} (hb : w.heap[m]? = some (.map es clk)) (hs : Stamped es' clk') (hk : es'.toList.map (fun x => (x.key, x.val)) = l'.map kv) (hsm : ∀ p ∈ l', ∀ c ∈ p.1, c < 256) : PutM w { w with heap := w.heap.setIfInBounds m (.map es' clk') } m l' :=
  ⟨⟨⟨es', clk', (heap_set hb).1, hs, hk⟩, hsm⟩, ⟨rfl, rfl, rfl, by simp, fun k _ hne => (heap_set hb).2 k (fun e => hne (by rw [e]))⟩, by simp, ⟨_, _, hb⟩⟩
theorem del_none {nm : List Nat} (h : ∀ p ∈ l, p.1 ≠ nm) : del l nm = l := by
  unfold del
  rw [List.filter_eq_self]
  intro p hp
  simpa using h p hp
/-- Deleting. -/
theorem Mp.delete {P : Program} {t k e ty : TypeId} {nm : List Nat} (h : Mp w m l) (ht : P.underlying t = some (.map k e)) (hk : P.underlying k = some .string) (hn : ∀ c ∈ nm, c < 256) :
    ∃ w', (Builtin.delete_ #[t, k] ty #[.map (some m), .string (strOf nm)]).run P w = .ok (.tuple #[]) w' ∧ PutM w w' m (del l nm) := by
  obtain ⟨es, clk, h1, h2, h3⟩ := h.ex
  have hc : ∀ em, (Instr.checkKey em 10000 k (.string (strOf nm))).run P w = .ok () w := fun em => MapKept.run_checkKey (k := .string (strOf nm)) hk (by simp [IsKey]) em 9999
  rcases Mp.find h2 h3 h.small hn with ⟨h4, -, h5, h6⟩ | ⟨j, p, h4, h5, h6, h7⟩
  · refine ⟨_, ?_, put_map h1 h2 (by rw [del_none h6]; exact h3) (by rw [del_none h6]; exact h.small)⟩
    simp [Builtin.delete_, Sem.run_bind, run_underlying ht, Result.andThen_ok, MapKept.run_getObj_map h1, hc, MapKept.run_findKey hk h4, MapKept.run_setObj_map _ h1]
  · have hdel : del l nm = l.eraseIdx j := by
      have hcut : l = l.take j ++ p :: l.drop (j + 1) := lk_some.cut_at' h5
      have hd := h.nodup
      rw [hcut, List.map_append, List.map_cons, List.nodup_append] at hd
      obtain ⟨-, hd2, hd3⟩ := hd
      rw [List.nodup_cons] at hd2
      have e1 : ∀ q ∈ l.take j, decide (q.1 ≠ nm) = true := fun q hq => by
        rw [decide_eq_true_eq]
        intro e
        exact hd3 q.1 (List.mem_map.2 ⟨q, hq, rfl⟩) p.1 (List.mem_cons_self) (by rw [e, h6])
      have e2 : ∀ q ∈ l.drop (j + 1), decide (q.1 ≠ nm) = true := fun q hq => by
        rw [decide_eq_true_eq]
        intro e
        exact hd2.1 (List.mem_map.2 ⟨q, hq, by rw [e, h6]⟩)
      rw [List.eraseIdx_eq_take_drop_succ]
      unfold del
      conv => lhs; rw [hcut]
      rw [List.filter_append, List.filter_cons_of_neg (by simp [h6]), List.filter_eq_self.2 e1, List.filter_eq_self.2 e2]
    have hj : j < es.size := by
      have := congrArg List.length h3
      simp only [List.length_map, Array.length_toList] at this
      have := (List.getElem?_eq_some_iff.1 h5).1
      omega
    refine ⟨_, ?_, put_map (es' := es.eraseIdxIfInBounds j) h1 (stamped_erase h2 j) ?_ ?_⟩
    · simp [Builtin.delete_, Sem.run_bind, run_underlying ht, Result.andThen_ok, MapKept.run_getObj_map h1, hc, MapKept.run_findKey hk h4, MapKept.run_setObj_map _ h1]
    · rw [hdel]
      unfold Array.eraseIdxIfInBounds
      rw [dif_pos hj, Array.toList_eraseIdx, List.eraseIdx_eq_take_drop_succ, List.eraseIdx_eq_take_drop_succ, List.map_append, List.map_append, List.map_take, List.map_take, List.map_drop, List.map_drop, h3]
    · rw [hdel]
      exact fun q hq => h.small q ((List.eraseIdx_sublist _ _).subset hq)
/-- Laying. -/
theorem Mp.update {P : Program} {t k e : TypeId} {nm : List Nat} {b : Nat} (h : Mp w m l) (ht : P.underlying t = some (.map k e)) (hk : P.underlying k = some .string) (hn : ∀ c ∈ nm, c < 256) :
    ∃ w', (Instr.mapUpdate t (.map (some m)) (.string (strOf nm)) (.pointer (some ⟨b, 0, none⟩))).run P w = .ok () w' ∧ PutM w w' m (upd l nm b) := by
  obtain ⟨es, clk, h1, h2, h3⟩ := h.ex
  have hc : ∀ em, (Instr.checkKey em 10000 k (.string (strOf nm))).run P w = .ok () w := fun em => MapKept.run_checkKey (k := .string (strOf nm)) hk (by simp [IsKey]) em 9999
  rcases Mp.find h2 h3 h.small hn with ⟨h4, h4b, h5, h6⟩ | ⟨j, p, h4, h5, h6, h7⟩
  · have hu : upd l nm b = l ++ [(nm, b)] := by unfold upd; rw [h5]; rfl
    refine ⟨_, ?_, put_map h1 (stamped_push h2 h4b) (by rw [hu, Array.toList_push, List.map_append, List.map_append, h3]; rfl) ?_⟩
    · simp [Instr.mapUpdate, Sem.run_bind, run_underlying ht, Result.andThen_ok, MapKept.run_getObj_map h1, hc, MapKept.run_findKey hk h4, MapKept.run_setObj_map _ h1]
    · rw [hu]
      intro q hq
      rcases List.mem_append.1 hq with hq | hq
      · exact h.small q hq
      · simp at hq; subst hq; exact hn
  · have hu : upd l nm b = l.map (fun p => if p.1 = nm then (nm, b) else p) := by unfold upd; rw [h7]; rfl
    have hj : j < es.size := by
      have := congrArg List.length h3
      simp only [List.length_map, Array.length_toList] at this
      have := (List.getElem?_eq_some_iff.1 h5).1
      omega
    have hkj : es[j].key = .string (strOf nm) := by
      have h8 := kv_get h3 j
      rw [h5, Array.getElem?_toList, Array.getElem?_eq_getElem hj] at h8
      simp only [Option.map_some, Option.some.injEq, kv, Prod.mk.injEq] at h8
      rw [h8.1, h6]
    have hstay : (Instr.keyThatStays (.string (strOf nm)) (.string (strOf nm))).run P w = .ok (.string (strOf nm)) w := by
      have : Instr.sameBits 10000 (.string (strOf nm)) (.string (strOf nm)) = true := by
        show (strOf nm == strOf nm) = true
        rw [bytes_beq]
      simp [Instr.keyThatStays, this]
    refine ⟨_, ?_, put_map (es' := es.modify j fun x => { x with key := .string (strOf nm), val := .pointer (some ⟨b, 0, none⟩) }) (clk' := clk) h1 ?_ ?_ ?_⟩
    · simp [Instr.mapUpdate, Sem.run_bind, run_underlying ht, Result.andThen_ok, MapKept.run_getObj_map h1, hc, MapKept.run_findKey hk h4, Array.getElem?_eq_getElem hj, hkj, hstay, MapKept.run_setObj_map _ h1]
    · refine stamped_modify h2 j _ (fun _ _ => rfl) (fun e he hje => ?_)
      rw [Array.getElem?_eq_getElem hj] at hje
      injection hje with hje
      subst hje
      exact hkj.symm
    · rw [hu]
      have hnd := h.nodup
      apply List.ext_getElem?
      intro i
      rw [List.getElem?_map, List.getElem?_map, List.getElem?_map, Array.getElem?_toList, Array.getElem?_modify]
      have h8 := kv_get h3 i
      rw [Array.getElem?_toList] at h8
      by_cases hij : j = i
      · subst hij
        rw [if_pos rfl, Array.getElem?_eq_getElem hj, h5]
        simp [kv, h6]
      · rw [if_neg hij, h8]
        cases hq : l[i]? with
        | none => rfl
        | some q =>
          have hne : q.1 ≠ nm := fun e => by
            have h9 : (l.map (·.1))[j]? = (l.map (·.1))[i]? := by rw [List.getElem?_map, List.getElem?_map, h5, hq]; simp [h6, e]
            exact hij ((List.getElem?_inj (by rw [List.length_map]; exact (List.getElem?_eq_some_iff.1 h5).1) hnd).1 h9)
          simp [hne]
    · rw [hu]
      intro q hq
      obtain ⟨q', hq', rfl⟩ := List.mem_map.1 hq
      split
      · exact hn
      · exact h.small q' hq'
end
end Go.Proofs.YtnlepoplncjliaaGreatDoor
