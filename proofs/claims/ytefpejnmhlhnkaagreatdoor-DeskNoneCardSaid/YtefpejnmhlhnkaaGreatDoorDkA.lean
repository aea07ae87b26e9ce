/-
  Channels in the frame of known slots: a region that begins with a select of one case and a default; make, close and len of a channel; a slice of the call's own whose front is cut off. No condition.
-/
import Derived.Test.YtefpejnmhlhnkaaGreatDoorKH
import Derived.Test.YtefpejnmhlhnkaaGreatDoorIM2
set_option linter.unusedSectionVars false
namespace Go.Proofs.YtefpejnmhlhnkaaGreatDoor
open Go.RowKit Go.Conc

section
variable [Inhabited (List Deferred)]
variable {P : Program} {Q : Exit → Act → World → Prop} {rest : List Oper} {E : Operand → Option Value} {o : Oper} {n d : Nat} {F : List (Nat × Value)} {w w' : World} {v : Value} {x y : Operand} {T T' : TypeId}
theorem Runs.nilCheck {ad : Addr} (ho : o.op = .nilCheck x) (hx : E x = some (.pointer (some ad))) : Runs P E o w (.pointer (some ad)) w := fun ρ h => by
  unfold execOp; simp only [ho]; rw [h _ _ hx]; rfl
/-- A select, run here and now: what it answers, and the world behind it. -/
def Sels (P : Program) (n : Nat) (F : List (Nat × Value)) (o : Oper) (w : World) (v : Value) (w' : World) : Prop :=
  ∀ (ops : Array Oper) (a : Act), ops[0]? = some o → Fr n F a → RI.Goes1 P ops 0 (fun a' w'' => a' = a.put o.dst v ∧ w'' = w') a w
theorem Cd.sel {id : Nat} (hs : Sels P n F o w v w') (hd : o.dst = some d) (hn : Nat.blt d n = true) (h : Seq P (o :: rest).toArray Q rest n ((d, v) :: F) w') : Cd P (.region id (o :: rest).toArray false) Q n F w := by
  intro a ha b k cs
  obtain ⟨a', w'', ⟨rfl, rfl⟩, st⟩ := hs (o :: rest).toArray a (by simp) ha b (List.range' 1 rest.length) k cs
  rw [hd] at st
  have h1 := h _ (ha.put (v := v) (Nat.blt_eq.mp hn))
  have h2 := wpOps_eq_wpList (P := P) (ops := (o :: rest).toArray) (Q := Q) rest 1 (fun j => by simp [Nat.add_comm 1 j])
  rw [← h2] at h1
  obtain ⟨e, a2, w2, q, arr⟩ := wp_ops _ _ _ h1 b k cs
  refine ⟨e, a2, w2, q, .of_steps (Steps.trans (.one step_region) ?_) arr⟩
  have : List.range (o :: rest).toArray.size = 0 :: List.range' 1 rest.length := by
    rw [List.range_eq_range', List.size_toArray, List.length_cons, List.range'_succ]
  rw [this]
  exact st
section
variable {c : Operand} {R cap s r : Nat} {t : TypeId} {z u : Value} {buf : Array Value}
theorem sel_recv (ho : o.op = .select #[⟨c, none, t⟩] false) (hg : o.guard = none) (hc : evF F c = some (.chan (some R))) (hz : zeroIs P t = some (some z)) {closed : Bool} (hb : w.heap[R]? = some (.chan cap buf closed s r false)) (h0 : 0 < buf.size) :
    Sels P n F o w (.tuple #[goInt 0, .bool true, buf.getD 0 undef]) (w.setChan R cap (buf.extract 1 buf.size) closed s (r + 1) false) := by
  intro ops a hoi ha
  have hr : (execOp a.eval o).run P w = .ok (.comm #[rcase R z] false .select) w := by
    unfold execOp
    simp [ho, ha.ev _ _ hc, run_zero hz, rcase]
  exact RI.goes_sel hoi (by unfold Region.wanted; rw [hg]) hr (fun fr cs es he => step_lone_select_recv_buf (w₁ := w) (z := z) he hb h0) ⟨rfl, rfl⟩
theorem sel_shut (ho : o.op = .select #[⟨c, none, t⟩] false) (hg : o.guard = none) (hc : evF F c = some (.chan (some R))) (hz : zeroIs P t = some (some z)) (hb : w.heap[R]? = some (.chan cap #[] true s r false)) :
    Sels P n F o w (.tuple #[goInt 0, .bool false, z]) w := by
  intro ops a hoi ha
  have hr : (execOp a.eval o).run P w = .ok (.comm #[rcase R z] false .select) w := by
    unfold execOp
    simp [ho, ha.ev _ _ hc, run_zero hz, rcase]
  exact RI.goes_sel hoi (by unfold Region.wanted; rw [hg]) hr (fun fr cs es he => step_lone_select_recv_shut (w₁ := w) (z := z) he hb) ⟨rfl, rfl⟩
theorem sel_none (ho : o.op = .select #[⟨c, none, t⟩] false) (hg : o.guard = none) (hc : evF F c = some (.chan (some R))) (hz : zeroIs P t = some (some z)) (hb : w.heap[R]? = some (.chan cap #[] false s r false)) :
    Sels P n F o w (.tuple #[goInt (-1), .bool false, z]) w := by
  intro ops a hoi ha
  have hr : (execOp a.eval o).run P w = .ok (.comm #[rcase R z] false .select) w := by
    unfold execOp
    simp [ho, ha.ev _ _ hc, run_zero hz, rcase]
  exact RI.goes_sel hoi (by unfold Region.wanted; rw [hg]) hr (fun fr cs es he => step_lone_select_default (w₁ := w) (z := z) he hb) ⟨rfl, rfl⟩
theorem sel_send (ho : o.op = .select #[⟨c, some x, t⟩] false) (hg : o.guard = none) (hc : evF F c = some (.chan (some R))) (hx : evF F x = some u) (hz : zeroIs P t = some (some z)) (hb : w.heap[R]? = some (.chan cap buf false s r false)) (hroom : buf.size < cap) :
    Sels P n F o w (.tuple #[goInt 0, .bool false]) (w.setChan R cap (buf.push u) false (s + 1) r false) := by
  intro ops a hoi ha
  have hr : (execOp a.eval o).run P w = .ok (.comm #[scase R u z] false .select) w := by
    unfold execOp
    simp [ho, ha.ev _ _ hc, ha.ev _ _ hx, run_zero hz, scase]
  exact RI.goes_sel hoi (by unfold Region.wanted; rw [hg]) hr (fun fr cs es he => step_lone_select_send_room (w₁ := w) he hb hroom) ⟨rfl, rfl⟩
theorem sel_full (ho : o.op = .select #[⟨c, some x, t⟩] false) (hg : o.guard = none) (hc : evF F c = some (.chan (some R))) (hx : evF F x = some u) (hz : zeroIs P t = some (some z)) (hb : w.heap[R]? = some (.chan cap buf false s r false)) (hfull : cap ≤ buf.size) :
    Sels P n F o w (.tuple #[goInt (-1), .bool false]) w := by
  intro ops a hoi ha
  have hr : (execOp a.eval o).run P w = .ok (.comm #[scase R u z] false .select) w := by
    unfold execOp
    simp [ho, ha.ev _ _ hc, ha.ev _ _ hx, run_zero hz, scase]
  exact RI.goes_sel hoi (by unfold Region.wanted; rw [hg]) hr (fun fr cs es he => step_lone_select_send_full (w₁ := w) he hb hfull) ⟨rfl, rfl⟩
theorem Runs.makeChan {k : IntKind} {m b : Nat} {p : Int} {dr : ChanDir} {e : TypeId} (ho : o.op = .makeChan T x) (hx : E x = some (.int k p)) (hp : p = (m : Int)) (hT : P.underlying T = some (.chan dr e)) (hb : (P.info? e).map (·.bytes) = some b) (hm : m ≤ 100000000) (hbm : b * m ≤ 100000000) :
    Runs P E o w (.chan (some w.heap.size)) (w.alloc (.chan m #[] false 0 0 false)) := fun ρ h => by
  subst hp
  obtain ⟨i, hi, hib⟩ := Option.map_eq_some_iff.1 hb
  unfold execOp
  simp only [ho]
  rw [h _ _ hx]
  have hmax : IntKind.i64.max = 9223372036854775807 := by decide
  have h1 : ¬ ((m : Int) < 0 ∨ (m : Int) > IntKind.i64.max ∨ (i.bytes : Int) * (m : Int) > 2 ^ 48 - 112) := by
    have h2 : (i.bytes : Int) * (m : Int) = ((i.bytes * m : Nat) : Int) := by simp
    rw [hmax, h2, hib]
    omega
  simp only [Instr.makeChan, asInt, asIntOf, Sem.run_bind, Sem.run_pure, Result.andThen_ok, run_underlying hT, typeInfo, program, Sem.run, hi, if_neg h1]
  simp [newObj]
  rfl
theorem Runs.lenC {dr : ChanDir} {e : TypeId} {closed : Bool} (ho : o.op = .call { callee := .builtin .len, args := #[x], argTypes := #[t] }) (hx : E x = some (.chan (some R))) (hT : P.underlying t = some (.chan dr e)) (hb : w.heap[R]? = some (.chan cap buf closed s r false)) : Runs P E o w (.int .i64 (buf.size : Int)) w :=
  .of_call ho rfl (vs := [.chan (some R)]) (by simp only [evL, hx]) (fun cs => by
    simp [builtin, Builtin.len_, run_underlying hT, goInt, getObj, Sem.run, hb])
theorem Runs.close {t : TypeId} (ho : o.op = .call { callee := .builtin .close, args := #[x], argTypes := #[t] }) (hx : E x = some (.chan (some R))) (hb : w.heap[R]? = some (.chan cap buf false s r false)) : Runs P E o w (.tuple #[]) (w.setChan R cap buf true s r false) :=
  .of_call ho rfl (vs := [.chan (some R)]) (by simp only [evL, hx]) (fun cs => by
    have hdef : Builtin.close_ #[t] o.type #[.chan (some R)] = (getObj R >>= fun ob => match ob with
      | .chan room buf closed sent received timer => do
        if closed then runtimePanic (.plain "close of closed channel")
        setObj R (.chan room buf true sent received timer)
        Pure.pure (Value.tuple #[])
      | _ => stuck "close: no channel in this block") := rfl
    have hrun : (Builtin.close_ #[t] o.type #[.chan (some R)]).run P w = .ok (.tuple #[]) (w.setChan R cap buf true s r false) := by
      rw [hdef]
      simp [getObj, setObj, Sem.run, hb, World.setChan]
    show ((Builtin.close_ #[t] o.type #[.chan (some R)] >>= fun v => Pure.pure (Next.value v) : Sem Next)).run P w = _
    simp [hrun])
end
end
section
variable {w w' : World} {B e : Nat} {v : Value} {xs : List Value}
/-- A slice of the call's own, of elements of one cell, whose front may have been cut off. -/
structure Cut (w : World) (B e : Nat) (v : Value) (xs : List Value) : Prop where
  row : (v = .slice none 0 0 ∧ xs = []) ∨ ∃ g off cap cur, v = .slice (some ⟨g, off, none⟩) xs.length cap ∧ B ≤ g ∧ w.heap[g]? = some (.cells cur e (0, 0)) ∧ xs.length ≤ cap ∧ cap ≤ maxLen ∧ off + cap ≤ cur.size ∧ ∀ j u, xs[j]? = some u → cur[off + j]? = some u
theorem Cut.nil (w : World) (B e : Nat) : Cut w B e (.slice none 0 0) [] := ⟨.inl ⟨rfl, rfl⟩⟩
theorem Cut.same (h : Cut w B e v xs) (hk : ∀ (k : Nat), (∃ cur : Array Value, w.heap[k]? = some (Obj.cells cur e (0, 0))) → w'.heap[k]? = w.heap[k]?) : Cut w' B e v xs := by
  rcases h.row with h | ⟨g, off, cap, cur, h1, h2, h3, h4⟩
  · exact ⟨.inl h⟩
  · exact ⟨.inr ⟨g, off, cap, cur, h1, h2, (hk g ⟨cur, h3⟩).trans h3, h4⟩⟩
theorem Cut.step (h : Cut w B e v xs) (hb : Below w.heap.size w w') : Cut w' B e v xs := h.same fun k ⟨cur, hc⟩ => hb.block k (Array.getElem?_eq_some_iff.1 hc).1
theorem Cut.len (h : Cut w B e v xs) : ∃ A c, v = .slice A xs.length c := by
  rcases h.row with ⟨rfl, rfl⟩ | ⟨g, off, cap, cur, rfl, -⟩
  · exact ⟨none, 0, rfl⟩
  · exact ⟨_, _, rfl⟩
theorem Cut.head {u : Value} (h : Cut w B e v (u :: xs)) : ∃ a c, v = .slice (some a) (xs.length + 1) c ∧ w.cell? (a.add 0) = some u := by
  rcases h.row with ⟨-, q⟩ | ⟨g, off, cap, cur, rfl, h2, h3, h4, h5, h6, h7⟩
  · cases q
  · refine ⟨_, _, rfl, ?_⟩
    have := h7 0 u rfl
    rw [RI.add_own]
    simp only [Nat.add_zero] at this ⊢
    exact RI.cell_of h3 this
end
section
variable [Inhabited (List Deferred)]
variable {P : Program} {ops : Array Oper} {Q : Exit → Act → World → Prop} {rest : List Oper} {o : Oper} {n d : Nat} {F : List (Nat × Value)} {w : World} {v : Value} {x y : Operand} {T e B : Nat} {xs : List Value}
/-- Its first element is cut off. -/
theorem Seq.cut {u : Value} (ho : o.op = .slice T x (some (.const (.int .i64 1))) none none) (hx : evF F x = some v) (hT : P.underlying T = some (.slice e)) (hs : sizeIs P e 1 = true) (hc : Cut w B e v (u :: xs)) (hg : o.guard = none) (hd : o.dst = some d) (hn : Nat.blt d n = true)
    (h : ∀ v', Cut w B e v' xs → Seq P ops Q rest n ((d, v') :: F) w) : Seq P ops Q (o :: rest) n F w := by
  obtain ⟨i, hi, hisz⟩ := sizeIs_spec hs
  rcases hc.row with ⟨-, q⟩ | ⟨g, off, cap, cur, rfl, h2, h3, h4, h5, h6, h7⟩
  · cases q
  · simp only [List.length_cons] at h4 hx
    refine Seq.val (v := .slice (if cap = 1 then some ⟨g, off, none⟩ else some ⟨g, off + 1, none⟩) xs.length (cap - 1)) (w' := w) (fun ρ hρ => ?_) hg hd hn (h _ ⟨.inr ?_⟩)
    · have h1 := hρ _ _ hx
      have h8 : ρ (.const (.int .i64 1)) = .int .i64 1 := hρ _ _ rfl
      unfold execOp
      simp only [ho, h1, Option.map_some, Option.map_none, h8]
      have hb : (Instr.sliceBounds true (xs.length + 1) cap (some (.int .i64 1)) none none).run P w = .ok (1, xs.length + 1, cap) w := by
        have h9 : (1 : Int) ≤ ((xs.length + 1 : Nat) : Int) := by omega
        simp [Instr.sliceBounds, Instr.sliceBound, asIntOf, go_sem, h9]
        omega
      simp only [Instr.sliceAt, Instr.slice, Sem.run_bind, run_underlying hT, Result.andThen_ok, hb, sizeOf, typeInfo, program, Sem.run, hi, hisz, Sem.run_pure]
      by_cases c : cap = 1
      · subst c
        simp
      · have : cap - 1 ≠ 0 := by omega
        simp [c, this, RI.add_own]
    · by_cases c : cap = 1
      · subst c
        have : xs = [] := List.eq_nil_of_length_eq_zero (by omega)
        subst this
        exact ⟨g, off, 0, cur, by simp, h2, h3, by simp, by simp, by omega, fun j u q => by simp at q⟩
      · exact ⟨g, off + 1, cap - 1, cur, by simp [c], h2, h3, by omega, by omega, by omega, fun j u q => by
          have := h7 (j + 1) u (by simpa using q)
          rwa [show off + (j + 1) = off + 1 + j by omega] at this⟩
/-- What an append leaves. -/
structure AppC (w w' : World) (B e : Nat) : Prop where
  below : Below B w w'
  keep : ∀ (k : Nat), k < w.heap.size → (∀ cur : Array Value, w.heap[k]? ≠ some (Obj.cells cur e (0, 0))) → w'.heap[k]? = w.heap[k]?
theorem Cut.of_own {m : Nat} {w' : World} (h : w'.ownsRow B e 1 v m xs) : Cut w' B e v xs := by
  obtain ⟨h0, h⟩ := h
  rw [Nat.mul_one] at h0
  rcases h with ⟨rfl, rfl⟩ | ⟨g, cap, cur, rfl, h2, h3, h4, h5, h6, h7⟩
  · exact ⟨.inl ⟨rfl, List.eq_nil_of_length_eq_zero h0⟩⟩
  · subst h0
    refine ⟨.inr ⟨g, 0, cap, cur, rfl, h2, h3, h4, h5, by omega, fun j u q => ?_⟩⟩
    rw [Nat.mul_one] at h7
    rw [← h7, List.getElem?_take] at q
    split at q
    · rw [Nat.zero_add]
      simpa using q
    · cases q
theorem base_less {W : World} {base base' m : Nat} (h : W.ownsRow base e 1 v m xs) (hb : base' ≤ base) : W.ownsRow base' e 1 v m xs := by
  refine ⟨h.1, ?_⟩
  rcases h.2 with hn | ⟨g, cap, cur, hv, hbg, rest⟩
  · exact .inl hn
  · exact .inr ⟨g, cap, cur, hv, Nat.le_trans hb hbg, rest⟩
theorem Seq.appendC {t b B2 c : Nat} {A : Option Addr} {z u : Value} (ho : o.op = .call { callee := .builtin .append, args := #[x, y], argTypes := #[t, t] }) (hx : evF F x = some v) (hy : evF F y = some (.slice A 1 c)) (ht : P.underlying t = some (.slice e)) (hs : sizeIs P e 1 = true) (hz : zeroIs P e = some (some z)) (hzs : z.cells.size = 1) (hby : (P.info? e).map (·.bytes) = some b)
    (hc : Cut w B e v xs) (hr : Reads w B2 1 A 1 [u]) (h1 : u.oneCell' = true) (hB : B ≤ w.heap.size) (hbytes : (xs.length + 1) * b ≤ 140737488355328) (h63 : xs.length + 1 ≤ maxLen) (hg : o.guard = none) (hd : o.dst = some d) (hn : Nat.blt d n = true)
    (h : ∀ v' w', Cut w' B e v' (xs ++ [u]) → AppC w w' B e → Seq P ops Q rest n ((d, v') :: F) w') : Seq P ops Q (o :: rest) n F w := by
  obtain ⟨i, hi, hisz⟩ := sizeIs_spec hs
  have hz' : i.zero = some z := by unfold zeroIs at hz; rw [hi] at hz; injection hz
  have hb' : i.bytes = b := by rw [hi] at hby; injection hby
  have hone : ∀ z ∈ [u], z.oneCell' = true := fun z hz => by simp at hz; subst hz; exact h1
  have hex : ∀ {v' : Value} {w' : World}, (Builtin.append_ #[t, t] o.type #[v, .slice A 1 c]).run P w = .ok v' w' → Runs P (evF F) o w v' w' := fun hrun ρ hρ => by
    unfold execOp
    simp only [ho, resolve, invoke, builtin, Sem.run_bind, Sem.run_pure, Result.andThen_ok, List.map_toArray, List.map_cons, List.map_nil, hρ _ _ hx, hρ _ _ hy, hrun]
  rcases hc.row with ⟨rfl, rfl⟩ | ⟨g, off, cap, cur, rfl, h2, h3, h4, h5, h6, h7⟩
  · refine Seq.append ho hx hy ht hs hz hzs (by decide) hby (Own.nil w B e 1) hr hone hB (by simpa using h63) (by simpa using hbytes) hg hd hn fun v' w' k1 k2 => h v' w' (Cut.of_own k1.row) ⟨k2.below, fun k hk _ => k2.grown.block k hk (by simp [Value.ownBlock])⟩
  · obtain ⟨hm, hr⟩ := hr
    obtain ⟨a0, rfl, -, hcell⟩ := hr (by decide)
    have hglt := (Array.getElem?_eq_some_iff.1 h3).1
    have hBg : ∀ j, j < B → j ≠ g := fun j hj q => by omega
    by_cases hroom : xs.length + 1 ≤ cap
    · have hrun := run_append_room_cells (P := P) w t o.type e i ht hi g off xs.length cap a0 1 c [u] (by simp [hisz]) (fun j z hz => hcell j z hz) hone hroom (fun j hj => by
          have hj : j = 0 := by simpa using hj
          subst hj
          rw [hisz, Nat.mul_one, Nat.add_zero]
          have : off + xs.length < cur.size := by omega
          rw [RI.cell_of h3 (Array.getElem?_eq_getElem this)]
          rfl) (fun j hj => by
          simp [World.frozen?, h3])
      rw [hisz, Nat.mul_one] at hrun
      obtain ⟨C', k1, k2, k3⟩ := RI.heap_setCells g [u] (off + xs.length) w cur e (0, 0) h3 (by simp; omega)
      refine Seq.val (hex hrun) hg hd hn (h _ _ ⟨.inr ⟨g, off, cap, C', by simp, h2, k1, by simpa using hroom, h5, by omega, fun j z hz => ?_⟩⟩ ⟨RI.below_setCells h2 _ _ (Below.refl _ _), fun k hk hne => RI.heap_setCells_ne g [u] _ w k fun q => hne cur (q ▸ h3)⟩)
      rw [k3]
      by_cases hj : j < xs.length
      · rw [List.getElem?_append_left hj] at hz
        rw [if_neg (by omega)]
        exact h7 j z hz
      · rw [List.getElem?_append_right (by omega)] at hz
        have hj2 : j = xs.length := by
          have := (List.getElem?_eq_some_iff.1 hz).1
          simp at this
          omega
        subst hj2
        rw [if_pos (by simp)]
        simpa using hz
    · obtain ⟨v', w', hrun, k1, k2⟩ := run_append_arg_grows (P := P) w t o.type e i z 1 b ht hi hz' hisz hb' hzs (by decide) ⟨g, off, none⟩ xs.length cap xs (by simp) (fun j z hz => by
          rw [RI.add_own]
          exact RI.cell_of h3 (h7 j z hz)) a0 1 c [u] (by simp) (fun j z hz => hcell j z hz) (by omega) h63 hbytes
      exact Seq.val (hex hrun) hg hd hn (h _ _ (Cut.of_own (base_less k1 hB)) ⟨⟨k2.os, k2.tape, k2.output, k2.size, fun j hj => k2.block j (by omega) (by simp)⟩, fun k hk _ => k2.block k hk (by simp)⟩)
end
end Go.Proofs.YtefpejnmhlhnkaaGreatDoor
