/-
  Texts that were joined: TrmC, TrmD, TrmE, TrmF, TrmG, TrmH, TrmI, TrmJ, TrmK, TrmL, TrmM, TrmN, TrmO, TrmP, ParA, PanA, PanB, PanC, PanD, KS, PanE. Conditions: what each theorem names.
-/
import Derived.Test.YtijaldpmpjapiaaC2
set_option linter.unusedSectionVars false
namespace Go.Proofs.Ytijaldpmpjapiaa
open Go.RowKit

theorem indexT_any (g : Nat) (cp : List Value) (p : Tm → Bool) (B : Nat) (A : Option Addr) (c : Nat) (l : List Tm) (w : World) (h60 : l.length ≤ 1000) (hv : TmAt w B l A) (hB : B ≤ w.heap.size)
    (eg : ∀ args w, (callFunc g args).run Try.prog w = .ok (.enter g args) w) (hp : ∀ x ∈ l, ∀ v W, Below w.heap.size w W → RepB W B x v → Calls Try.prog g ([] ++ [v] ++ cp).toArray W fun en w' => en = .returned (.bool (p x)) ∧ Grow W w') :
    Calls Try.prog 154 #[.slice A l.length c, .func (.func g) #[] cp.toArray] w fun en w' => en = .returned (.int .i64 (idxP p l)) ∧ Grow w w' := by
  have bel := Below.refl w.heap.size w
  obtain ⟨n, hn⟩ : ∃ n, n = l.length := ⟨_, rfl⟩
  rw [← hn] at h60 ⊢
  refine Calls.start 19 Try.func154 rfl rfl rfl ?_
  refine Cd.seq ?_
  refine Cd.region ?_
  refine Seq.val (Runs.assign rfl rfl) rfl rfl rfl ?_
  refine Seq.nil ?_
  refine Post.weak (F' := [(0, _), (1, _), (4, _)]) ⟨rfl, rfl, rfl, trivial⟩ ?_
  refine Post.then_ ?_
  refine Cd.seq ?_
  refine Cd.seq ?_
  refine Cd.region ?_
  refine Seq.val (Runs.move rfl rfl) rfl rfl rfl ?_
  refine Seq.val (Runs.len rfl rfl Try.underlying27) rfl rfl rfl ?_
  refine Seq.val (Runs.move rfl rfl) rfl rfl rfl ?_
  refine Seq.nil ?_
  refine Post.weak (F' := [(0, _), (1, _), (4, _), (7, _), (8, _)]) ⟨rfl, rfl, rfl, rfl, rfl, trivial⟩ ?_
  refine Post.then_ ?_
  refine Cd.block ?_
  refine Cd.loop (σ := Nat) (fun k => [(0, .slice A n c), (1, .func (.func g) #[] cp.toArray), (7, .int .i64 (n : Int)), (8, .int .i64 (k : Int))])
    (fun k wr => k ≤ n ∧ (∀ y ∈ l.take k, p y = false) ∧ Below w.heap.size w wr) (fun k => n - k) 0 ⟨Nat.zero_le _, by simp, bel⟩ ⟨rfl, rfl, rfl, rfl, trivial⟩ ?_
  clear bel
  rintro k wr ⟨hk, hno, bel⟩
  refine Cd.seq ?_
  refine Cd.region ?_
  refine Seq.val (Runs.lss rfl rfl rfl) rfl rfl rfl ?_
  refine Seq.nil ?_
  refine Post.weak (F' := [(0, _), (1, _), (7, _), (8, _), (9, _)]) ⟨rfl, rfl, rfl, rfl, rfl, trivial⟩ ?_
  refine Post.then_ ?_
  refine Cd.seq ?_
  refine Cd.condD rfl (fun hc => ?_) (fun hc => ?_)
  · obtain ⟨x, hx⟩ : ∃ x, l[k]? = some x := ⟨_, List.getElem?_eq_getElem (show k < l.length by omega)⟩
    obtain ⟨ad, A1, A2, c1, c2, rfl, hbl, hrx, hc⟩ := hv k x hx
    have hc := fun j u hj => ((bel.mono hB).cell (p := (ad.add (k * 4)).add j) (by rw [block_of_add, block_of_add]; exact hbl)).trans (hc j u hj)
    have htk : l.take (k + 1) = l.take k ++ [x] := by rw [List.take_add_one, hx]; rfl
    refine Cd.skip ?_
    refine Post.then_ ?_
    refine Cd.seq ?_
    refine Cd.block ?_
    refine Cd.seq ?_
    refine Cd.region ?_
    refine Seq.val (Runs.move rfl rfl) rfl rfl rfl ?_
    refine Seq.val (Runs.assign rfl rfl) rfl rfl rfl ?_
    refine Seq.nil ?_
    refine Post.weak (F' := [(0, _), (1, _), (5, _), (7, _), (8, _), (9, _)]) ⟨rfl, rfl, rfl, rfl, rfl, rfl, trivial⟩ ?_
    refine Post.then_ ?_
    refine Cd.seq ?_
    refine Cd.region ?_
    refine Seq.val (Runs.move rfl rfl) rfl rfl rfl ?_
    refine Seq.val (Runs.move rfl rfl) rfl rfl rfl ?_
    refine Seq.val (Runs.move rfl rfl) rfl rfl rfl ?_
    refine Seq.val (Runs.indexN rfl rfl rfl Try.underlying27 (s := 4) (by kernel_rfl) (j := k) rfl (by omega)) rfl rfl rfl ?_
    refine Seq.val (Runs.loadF (ps := [.int .i64 x.op, .string (strOf x.name), .slice A1 x.exprs.length c1, .slice A2 x.terms.length c2]) rfl rfl Try.underlying57 rfl (m := 4) (by kernel_rfl) rfl hc) rfl rfl rfl ?_
    refine Seq.call (Enters.value (first := []) (cap := cp) rfl rfl rfl eg) rfl rfl rfl (hp x (List.mem_of_getElem? hx) _ _ bel (hrx.below (bel.mono hB))) ?_
    rintro en w5 ⟨rfl, hb5⟩
    refine ⟨_, rfl, ?_⟩
    replace bel := bel.step hb5
    refine Seq.nil ?_
    refine Post.weak (F' := [(0, _), (1, _), (5, _), (7, _), (8, _), (9, _), (16, _)]) ⟨rfl, rfl, rfl, rfl, rfl, rfl, rfl, trivial⟩ ?_
    refine Post.then_ ?_
    refine Cd.cond rfl (fun h => ?_) (fun h => ?_)
    · skip
      refine Cd.seq ?_
      refine Cd.region ?_
      refine Seq.val (Runs.move rfl rfl) rfl rfl rfl ?_
      refine Seq.val (Runs.assign rfl rfl) rfl rfl rfl ?_
      refine Seq.nil ?_
      refine Post.weak (F' := [(0, _), (1, _), (4, _), (5, _), (7, _), (8, _), (9, _), (16, _)]) ⟨rfl, rfl, rfl, rfl, rfl, rfl, rfl, rfl, trivial⟩ ?_
      refine Post.then_ ?_
      refine Cd.ret ?_
      refine Post.block_ret ?_
      refine Post.then_ret ?_
      refine Post.round_ret ?_
      refine Post.block_ret ?_
      refine Post.then_ret ?_
      refine Post.end1 rfl rfl (.inl rfl) ?_
      exact ⟨ret1 (int_eq (idxP_some hx h hno).symm), bel⟩
    · skip
      refine Cd.skip ?_
      refine Post.block_normal ?_
      refine Post.then_ ?_
      refine Cd.region ?_
      refine Seq.val (Runs.addI rfl rfl rfl (by omega) (by omega)) rfl rfl rfl ?_
      refine Seq.val (Runs.move rfl rfl) rfl rfl rfl ?_
      refine Seq.nil ?_
      refine Post.weak (F' := [(0, _), (1, _), (5, _), (7, _), (8, _), (9, _), (16, _)]) ⟨rfl, rfl, rfl, rfl, rfl, rfl, rfl, trivial⟩ ?_
      refine Post.round (k + 1) ⟨rfl, rfl, rfl, rfl, trivial⟩ ⟨by omega, fun y hy => ?_, bel⟩ (by omega)
      rw [htk] at hy
      rcases List.mem_append.1 hy with hy | hy
      · exact hno y hy
      · simp at hy; subst hy; exact h
  · obtain rfl : k = n := by omega
    rw [List.take_of_length_le (by omega)] at hno
    refine Cd.exit ?_
    refine Post.then_exit ?_
    refine Post.round_exit ?_
    refine Post.block_exit ?_
    refine Post.then_ ?_
    refine Cd.seq ?_
    refine Cd.region ?_
    refine Seq.val (Runs.assign rfl rfl) rfl rfl rfl ?_
    refine Seq.nil ?_
    refine Post.weak (F' := [(0, _), (1, _), (4, _), (7, _), (8, _), (9, _)]) ⟨rfl, rfl, rfl, rfl, rfl, rfl, trivial⟩ ?_
    refine Post.then_ ?_
    refine Cd.ret ?_
    refine Post.end1 rfl rfl (.inl rfl) ?_
    exact ⟨ret1 (int_eq (idxP_none hno).symm), bel⟩
theorem containsT_any (g : Nat) (cp : List Value) (p : Tm → Bool) (B : Nat) (A : Option Addr) (c : Nat) (l : List Tm) (w : World) (h60 : l.length ≤ 1000) (hv : TmAt w B l A) (hB : B ≤ w.heap.size)
    (eg : ∀ args w, (callFunc g args).run Try.prog w = .ok (.enter g args) w) (hp : ∀ x ∈ l, ∀ v W, Below w.heap.size w W → RepB W B x v → Calls Try.prog g ([] ++ [v] ++ cp).toArray W fun en w' => en = .returned (.bool (p x)) ∧ Grow W w') :
    Calls Try.prog 121 #[.slice A l.length c, .func (.func g) #[] cp.toArray] w fun en w' => en = .returned (.bool (l.any p)) ∧ Grow w w' := by
  have bel := Below.refl w.heap.size w
  have hc := fun W (hb : Below w.heap.size w W) => indexT_any g cp p B A c l W h60 (hv.below (hb.mono hB)) (Nat.le_trans hB hb.size) eg (fun x hx v W2 hb2 hr => hp x hx v W2 (hb.trans (hb2.mono hb.size)) hr)
  have hany := idxP_any p l
  obtain ⟨n, hn⟩ : ∃ n, n = l.length := ⟨_, rfl⟩
  rw [← hn] at hc ⊢
  refine Calls.start 9 Try.func121 rfl rfl rfl ?_
  refine Cd.seq ?_
  refine Cd.region ?_
  refine Seq.val (Runs.assign rfl rfl) rfl rfl rfl ?_
  refine Seq.nil ?_
  refine Post.weak (F' := [(0, _), (1, _), (4, _)]) ⟨rfl, rfl, rfl, trivial⟩ ?_
  refine Post.then_ ?_
  refine Cd.seq ?_
  refine Cd.region ?_
  refine Seq.val (Runs.move rfl rfl) rfl rfl rfl ?_
  refine Seq.val (Runs.move rfl rfl) rfl rfl rfl ?_
  refine Seq.call (Enters.func rfl rfl rfl (run_enter Try.func154 (by kernel_rfl) rfl)) rfl rfl rfl (hc _ bel) ?_
  rintro en w5 ⟨rfl, hb5⟩
  refine ⟨_, rfl, ?_⟩
  replace bel := bel.step hb5
  refine Seq.val (Runs.geq rfl rfl rfl) rfl rfl rfl ?_
  refine Seq.val (Runs.assign rfl rfl) rfl rfl rfl ?_
  refine Seq.nil ?_
  refine Post.weak (F' := [(0, _), (1, _), (4, _)]) ⟨rfl, rfl, rfl, trivial⟩ ?_
  refine Post.then_ ?_
  refine Cd.ret ?_
  refine Post.end1 rfl rfl (.inl rfl) ?_
  exact ⟨ret1 (bool_eq hany), bel⟩
/-- How many expressions and terms a term has. -/
def arT (op : Int) : Int × Int := if op = 1 ∨ op = 2 then (0, 0) else if op = 3 then (0, 1) else if op = 4 ∨ op = 5 then (0, 2) else if op = 6 ∨ op = 7 ∨ op = 8 ∨ op = 9 then (1, 1) else (-1, -1)
theorem arities_any (op : Int) (w : World) : Calls Try.prog 117 #[.int .i64 op] w fun e w' => e = .returned (.tuple #[.int .i64 (arT op).1, .int .i64 (arT op).2]) ∧ Grow w w' := by
  have bel := Below.refl w.heap.size w
  refine Calls.start 18 Try.func117 rfl rfl rfl ?_
  by_cases h1 : op = 1
  · subst h1
    refine Cd.seq ?_
    refine Cd.region ?_
    refine Seq.val (Runs.assign rfl rfl) rfl rfl rfl ?_
    refine Seq.val (Runs.assign rfl rfl) rfl rfl rfl ?_
    refine Seq.nil ?_
    refine Post.weak (F' := [(0, _), (2, _), (3, _)]) ⟨rfl, rfl, rfl, trivial⟩ ?_
    refine Post.then_ ?_
    refine Cd.seq ?_
    refine Cd.seq ?_
    refine Cd.region ?_
    refine Seq.val (Runs.move rfl rfl) rfl rfl rfl ?_
    refine Seq.nil ?_
    refine Post.weak (F' := [(0, _), (2, _), (3, _), (4, _)]) ⟨rfl, rfl, rfl, rfl, trivial⟩ ?_
    refine Post.then_ ?_
    refine Cd.block ?_
    refine Cd.seq ?_
    refine Cd.seq ?_
    refine Cd.region ?_
    refine Seq.val (Runs.eqlI rfl rfl rfl) rfl rfl rfl ?_
    refine Seq.val (Runs.assign rfl rfl) rfl rfl rfl ?_
    refine Seq.nil ?_
    refine Post.weak (F' := [(0, _), (2, _), (3, _), (4, _), (5, _)]) ⟨rfl, rfl, rfl, rfl, rfl, trivial⟩ ?_
    refine Post.then_ ?_
    refine Cd.condT rfl rfl ?_
    refine Cd.skip ?_
    refine Post.then_ ?_
    refine Cd.condT rfl rfl ?_
    refine Cd.seq ?_
    refine Cd.region ?_
    refine Seq.val (Runs.assign rfl rfl) rfl rfl rfl ?_
    refine Seq.val (Runs.assign rfl rfl) rfl rfl rfl ?_
    refine Seq.nil ?_
    refine Post.weak (F' := [(0, _), (2, _), (3, _), (4, _), (5, _)]) ⟨rfl, rfl, rfl, rfl, rfl, trivial⟩ ?_
    refine Post.then_ ?_
    refine Cd.ret ?_
    refine Post.block_ret ?_
    refine Post.then_ret ?_
    refine Post.end2 rfl rfl rfl (.inl rfl) ?_
    exact ⟨rfl, bel⟩
  · skip
    by_cases h2 : op = 2
    · subst h2
      refine Cd.seq ?_
      refine Cd.region ?_
      refine Seq.val (Runs.assign rfl rfl) rfl rfl rfl ?_
      refine Seq.val (Runs.assign rfl rfl) rfl rfl rfl ?_
      refine Seq.nil ?_
      refine Post.weak (F' := [(0, _), (2, _), (3, _)]) ⟨rfl, rfl, rfl, trivial⟩ ?_
      refine Post.then_ ?_
      refine Cd.seq ?_
      refine Cd.seq ?_
      refine Cd.region ?_
      refine Seq.val (Runs.move rfl rfl) rfl rfl rfl ?_
      refine Seq.nil ?_
      refine Post.weak (F' := [(0, _), (2, _), (3, _), (4, _)]) ⟨rfl, rfl, rfl, rfl, trivial⟩ ?_
      refine Post.then_ ?_
      refine Cd.block ?_
      refine Cd.seq ?_
      refine Cd.seq ?_
      refine Cd.region ?_
      refine Seq.val (Runs.eqlI rfl rfl rfl) rfl rfl rfl ?_
      refine Seq.val (Runs.assign rfl rfl) rfl rfl rfl ?_
      refine Seq.nil ?_
      refine Post.weak (F' := [(0, _), (2, _), (3, _), (4, _), (5, _)]) ⟨rfl, rfl, rfl, rfl, rfl, trivial⟩ ?_
      refine Post.then_ ?_
      refine Cd.condF rfl rfl ?_
      refine Cd.region ?_
      refine Seq.val (Runs.eqlI rfl rfl rfl) rfl rfl rfl ?_
      refine Seq.val (Runs.assign rfl rfl) rfl rfl rfl ?_
      refine Seq.nil ?_
      refine Post.weak (F' := [(0, _), (2, _), (3, _), (4, _), (5, _)]) ⟨rfl, rfl, rfl, rfl, rfl, trivial⟩ ?_
      refine Post.then_ ?_
      refine Cd.condT rfl rfl ?_
      refine Cd.seq ?_
      refine Cd.region ?_
      refine Seq.val (Runs.assign rfl rfl) rfl rfl rfl ?_
      refine Seq.val (Runs.assign rfl rfl) rfl rfl rfl ?_
      refine Seq.nil ?_
      refine Post.weak (F' := [(0, _), (2, _), (3, _), (4, _), (5, _)]) ⟨rfl, rfl, rfl, rfl, rfl, trivial⟩ ?_
      refine Post.then_ ?_
      refine Cd.ret ?_
      refine Post.block_ret ?_
      refine Post.then_ret ?_
      refine Post.end2 rfl rfl rfl (.inl rfl) ?_
      exact ⟨rfl, bel⟩
    · skip
      by_cases h3 : op = 3
      · subst h3
        refine Cd.seq ?_
        refine Cd.region ?_
        refine Seq.val (Runs.assign rfl rfl) rfl rfl rfl ?_
        refine Seq.val (Runs.assign rfl rfl) rfl rfl rfl ?_
        refine Seq.nil ?_
        refine Post.weak (F' := [(0, _), (2, _), (3, _)]) ⟨rfl, rfl, rfl, trivial⟩ ?_
        refine Post.then_ ?_
        refine Cd.seq ?_
        refine Cd.seq ?_
        refine Cd.region ?_
        refine Seq.val (Runs.move rfl rfl) rfl rfl rfl ?_
        refine Seq.nil ?_
        refine Post.weak (F' := [(0, _), (2, _), (3, _), (4, _)]) ⟨rfl, rfl, rfl, rfl, trivial⟩ ?_
        refine Post.then_ ?_
        refine Cd.block ?_
        refine Cd.seq ?_
        refine Cd.seq ?_
        refine Cd.region ?_
        refine Seq.val (Runs.eqlI rfl rfl rfl) rfl rfl rfl ?_
        refine Seq.val (Runs.assign rfl rfl) rfl rfl rfl ?_
        refine Seq.nil ?_
        refine Post.weak (F' := [(0, _), (2, _), (3, _), (4, _), (5, _)]) ⟨rfl, rfl, rfl, rfl, rfl, trivial⟩ ?_
        refine Post.then_ ?_
        refine Cd.condF rfl rfl ?_
        refine Cd.region ?_
        refine Seq.val (Runs.eqlI rfl rfl rfl) rfl rfl rfl ?_
        refine Seq.val (Runs.assign rfl rfl) rfl rfl rfl ?_
        refine Seq.nil ?_
        refine Post.weak (F' := [(0, _), (2, _), (3, _), (4, _), (5, _)]) ⟨rfl, rfl, rfl, rfl, rfl, trivial⟩ ?_
        refine Post.then_ ?_
        refine Cd.condF rfl rfl ?_
        refine Cd.seq ?_
        refine Cd.region ?_
        refine Seq.val (Runs.eqlI rfl rfl rfl) rfl rfl rfl ?_
        refine Seq.val (Runs.assign rfl rfl) rfl rfl rfl ?_
        refine Seq.nil ?_
        refine Post.weak (F' := [(0, _), (2, _), (3, _), (4, _), (5, _), (8, _)]) ⟨rfl, rfl, rfl, rfl, rfl, rfl, trivial⟩ ?_
        refine Post.then_ ?_
        refine Cd.condT rfl rfl ?_
        refine Cd.seq ?_
        refine Cd.region ?_
        refine Seq.val (Runs.assign rfl rfl) rfl rfl rfl ?_
        refine Seq.val (Runs.assign rfl rfl) rfl rfl rfl ?_
        refine Seq.nil ?_
        refine Post.weak (F' := [(0, _), (2, _), (3, _), (4, _), (5, _), (8, _)]) ⟨rfl, rfl, rfl, rfl, rfl, rfl, trivial⟩ ?_
        refine Post.then_ ?_
        refine Cd.ret ?_
        refine Post.block_ret ?_
        refine Post.then_ret ?_
        refine Post.end2 rfl rfl rfl (.inl rfl) ?_
        exact ⟨rfl, bel⟩
      · skip
        by_cases h4 : op = 4
        · subst h4
          refine Cd.seq ?_
          refine Cd.region ?_
          refine Seq.val (Runs.assign rfl rfl) rfl rfl rfl ?_
          refine Seq.val (Runs.assign rfl rfl) rfl rfl rfl ?_
          refine Seq.nil ?_
          refine Post.weak (F' := [(0, _), (2, _), (3, _)]) ⟨rfl, rfl, rfl, trivial⟩ ?_
          refine Post.then_ ?_
          refine Cd.seq ?_
          refine Cd.seq ?_
          refine Cd.region ?_
          refine Seq.val (Runs.move rfl rfl) rfl rfl rfl ?_
          refine Seq.nil ?_
          refine Post.weak (F' := [(0, _), (2, _), (3, _), (4, _)]) ⟨rfl, rfl, rfl, rfl, trivial⟩ ?_
          refine Post.then_ ?_
          refine Cd.block ?_
          refine Cd.seq ?_
          refine Cd.seq ?_
          refine Cd.region ?_
          refine Seq.val (Runs.eqlI rfl rfl rfl) rfl rfl rfl ?_
          refine Seq.val (Runs.assign rfl rfl) rfl rfl rfl ?_
          refine Seq.nil ?_
          refine Post.weak (F' := [(0, _), (2, _), (3, _), (4, _), (5, _)]) ⟨rfl, rfl, rfl, rfl, rfl, trivial⟩ ?_
          refine Post.then_ ?_
          refine Cd.condF rfl rfl ?_
          refine Cd.region ?_
          refine Seq.val (Runs.eqlI rfl rfl rfl) rfl rfl rfl ?_
          refine Seq.val (Runs.assign rfl rfl) rfl rfl rfl ?_
          refine Seq.nil ?_
          refine Post.weak (F' := [(0, _), (2, _), (3, _), (4, _), (5, _)]) ⟨rfl, rfl, rfl, rfl, rfl, trivial⟩ ?_
          refine Post.then_ ?_
          refine Cd.condF rfl rfl ?_
          refine Cd.seq ?_
          refine Cd.region ?_
          refine Seq.val (Runs.eqlI rfl rfl rfl) rfl rfl rfl ?_
          refine Seq.val (Runs.assign rfl rfl) rfl rfl rfl ?_
          refine Seq.nil ?_
          refine Post.weak (F' := [(0, _), (2, _), (3, _), (4, _), (5, _), (8, _)]) ⟨rfl, rfl, rfl, rfl, rfl, rfl, trivial⟩ ?_
          refine Post.then_ ?_
          refine Cd.condF rfl rfl ?_
          refine Cd.seq ?_
          refine Cd.seq ?_
          refine Cd.region ?_
          refine Seq.val (Runs.eqlI rfl rfl rfl) rfl rfl rfl ?_
          refine Seq.val (Runs.assign rfl rfl) rfl rfl rfl ?_
          refine Seq.nil ?_
          refine Post.weak (F' := [(0, _), (2, _), (3, _), (4, _), (5, _), (8, _), (10, _)]) ⟨rfl, rfl, rfl, rfl, rfl, rfl, rfl, trivial⟩ ?_
          refine Post.then_ ?_
          refine Cd.condT rfl rfl ?_
          refine Cd.skip ?_
          refine Post.then_ ?_
          refine Cd.condT rfl rfl ?_
          refine Cd.seq ?_
          refine Cd.region ?_
          refine Seq.val (Runs.assign rfl rfl) rfl rfl rfl ?_
          refine Seq.val (Runs.assign rfl rfl) rfl rfl rfl ?_
          refine Seq.nil ?_
          refine Post.weak (F' := [(0, _), (2, _), (3, _), (4, _), (5, _), (8, _), (10, _)]) ⟨rfl, rfl, rfl, rfl, rfl, rfl, rfl, trivial⟩ ?_
          refine Post.then_ ?_
          refine Cd.ret ?_
          refine Post.block_ret ?_
          refine Post.then_ret ?_
          refine Post.end2 rfl rfl rfl (.inl rfl) ?_
          exact ⟨rfl, bel⟩
        · skip
          by_cases h5 : op = 5
          · subst h5
            refine Cd.seq ?_
            refine Cd.region ?_
            refine Seq.val (Runs.assign rfl rfl) rfl rfl rfl ?_
            refine Seq.val (Runs.assign rfl rfl) rfl rfl rfl ?_
            refine Seq.nil ?_
            refine Post.weak (F' := [(0, _), (2, _), (3, _)]) ⟨rfl, rfl, rfl, trivial⟩ ?_
            refine Post.then_ ?_
            refine Cd.seq ?_
            refine Cd.seq ?_
            refine Cd.region ?_
            refine Seq.val (Runs.move rfl rfl) rfl rfl rfl ?_
            refine Seq.nil ?_
            refine Post.weak (F' := [(0, _), (2, _), (3, _), (4, _)]) ⟨rfl, rfl, rfl, rfl, trivial⟩ ?_
            refine Post.then_ ?_
            refine Cd.block ?_
            refine Cd.seq ?_
            refine Cd.seq ?_
            refine Cd.region ?_
            refine Seq.val (Runs.eqlI rfl rfl rfl) rfl rfl rfl ?_
            refine Seq.val (Runs.assign rfl rfl) rfl rfl rfl ?_
            refine Seq.nil ?_
            refine Post.weak (F' := [(0, _), (2, _), (3, _), (4, _), (5, _)]) ⟨rfl, rfl, rfl, rfl, rfl, trivial⟩ ?_
            refine Post.then_ ?_
            refine Cd.condF rfl rfl ?_
            refine Cd.region ?_
            refine Seq.val (Runs.eqlI rfl rfl rfl) rfl rfl rfl ?_
            refine Seq.val (Runs.assign rfl rfl) rfl rfl rfl ?_
            refine Seq.nil ?_
            refine Post.weak (F' := [(0, _), (2, _), (3, _), (4, _), (5, _)]) ⟨rfl, rfl, rfl, rfl, rfl, trivial⟩ ?_
            refine Post.then_ ?_
            refine Cd.condF rfl rfl ?_
            refine Cd.seq ?_
            refine Cd.region ?_
            refine Seq.val (Runs.eqlI rfl rfl rfl) rfl rfl rfl ?_
            refine Seq.val (Runs.assign rfl rfl) rfl rfl rfl ?_
            refine Seq.nil ?_
            refine Post.weak (F' := [(0, _), (2, _), (3, _), (4, _), (5, _), (8, _)]) ⟨rfl, rfl, rfl, rfl, rfl, rfl, trivial⟩ ?_
            refine Post.then_ ?_
            refine Cd.condF rfl rfl ?_
            refine Cd.seq ?_
            refine Cd.seq ?_
            refine Cd.region ?_
            refine Seq.val (Runs.eqlI rfl rfl rfl) rfl rfl rfl ?_
            refine Seq.val (Runs.assign rfl rfl) rfl rfl rfl ?_
            refine Seq.nil ?_
            refine Post.weak (F' := [(0, _), (2, _), (3, _), (4, _), (5, _), (8, _), (10, _)]) ⟨rfl, rfl, rfl, rfl, rfl, rfl, rfl, trivial⟩ ?_
            refine Post.then_ ?_
            refine Cd.condF rfl rfl ?_
            refine Cd.region ?_
            refine Seq.val (Runs.eqlI rfl rfl rfl) rfl rfl rfl ?_
            refine Seq.val (Runs.assign rfl rfl) rfl rfl rfl ?_
            refine Seq.nil ?_
            refine Post.weak (F' := [(0, _), (2, _), (3, _), (4, _), (5, _), (8, _), (10, _)]) ⟨rfl, rfl, rfl, rfl, rfl, rfl, rfl, trivial⟩ ?_
            refine Post.then_ ?_
            refine Cd.condT rfl rfl ?_
            refine Cd.seq ?_
            refine Cd.region ?_
            refine Seq.val (Runs.assign rfl rfl) rfl rfl rfl ?_
            refine Seq.val (Runs.assign rfl rfl) rfl rfl rfl ?_
            refine Seq.nil ?_
            refine Post.weak (F' := [(0, _), (2, _), (3, _), (4, _), (5, _), (8, _), (10, _)]) ⟨rfl, rfl, rfl, rfl, rfl, rfl, rfl, trivial⟩ ?_
            refine Post.then_ ?_
            refine Cd.ret ?_
            refine Post.block_ret ?_
            refine Post.then_ret ?_
            refine Post.end2 rfl rfl rfl (.inl rfl) ?_
            exact ⟨rfl, bel⟩
          · skip
            by_cases h6 : op = 6
            · subst h6
              refine Cd.seq ?_
              refine Cd.region ?_
              refine Seq.val (Runs.assign rfl rfl) rfl rfl rfl ?_
              refine Seq.val (Runs.assign rfl rfl) rfl rfl rfl ?_
              refine Seq.nil ?_
              refine Post.weak (F' := [(0, _), (2, _), (3, _)]) ⟨rfl, rfl, rfl, trivial⟩ ?_
              refine Post.then_ ?_
              refine Cd.seq ?_
              refine Cd.seq ?_
              refine Cd.region ?_
              refine Seq.val (Runs.move rfl rfl) rfl rfl rfl ?_
              refine Seq.nil ?_
              refine Post.weak (F' := [(0, _), (2, _), (3, _), (4, _)]) ⟨rfl, rfl, rfl, rfl, trivial⟩ ?_
              refine Post.then_ ?_
              refine Cd.block ?_
              refine Cd.seq ?_
              refine Cd.seq ?_
              refine Cd.region ?_
              refine Seq.val (Runs.eqlI rfl rfl rfl) rfl rfl rfl ?_
              refine Seq.val (Runs.assign rfl rfl) rfl rfl rfl ?_
              refine Seq.nil ?_
              refine Post.weak (F' := [(0, _), (2, _), (3, _), (4, _), (5, _)]) ⟨rfl, rfl, rfl, rfl, rfl, trivial⟩ ?_
              refine Post.then_ ?_
              refine Cd.condF rfl rfl ?_
              refine Cd.region ?_
              refine Seq.val (Runs.eqlI rfl rfl rfl) rfl rfl rfl ?_
              refine Seq.val (Runs.assign rfl rfl) rfl rfl rfl ?_
              refine Seq.nil ?_
              refine Post.weak (F' := [(0, _), (2, _), (3, _), (4, _), (5, _)]) ⟨rfl, rfl, rfl, rfl, rfl, trivial⟩ ?_
              refine Post.then_ ?_
              refine Cd.condF rfl rfl ?_
              refine Cd.seq ?_
              refine Cd.region ?_
              refine Seq.val (Runs.eqlI rfl rfl rfl) rfl rfl rfl ?_
              refine Seq.val (Runs.assign rfl rfl) rfl rfl rfl ?_
              refine Seq.nil ?_
              refine Post.weak (F' := [(0, _), (2, _), (3, _), (4, _), (5, _), (8, _)]) ⟨rfl, rfl, rfl, rfl, rfl, rfl, trivial⟩ ?_
              refine Post.then_ ?_
              refine Cd.condF rfl rfl ?_
              refine Cd.seq ?_
              refine Cd.seq ?_
              refine Cd.region ?_
              refine Seq.val (Runs.eqlI rfl rfl rfl) rfl rfl rfl ?_
              refine Seq.val (Runs.assign rfl rfl) rfl rfl rfl ?_
              refine Seq.nil ?_
              refine Post.weak (F' := [(0, _), (2, _), (3, _), (4, _), (5, _), (8, _), (10, _)]) ⟨rfl, rfl, rfl, rfl, rfl, rfl, rfl, trivial⟩ ?_
              refine Post.then_ ?_
              refine Cd.condF rfl rfl ?_
              refine Cd.region ?_
              refine Seq.val (Runs.eqlI rfl rfl rfl) rfl rfl rfl ?_
              refine Seq.val (Runs.assign rfl rfl) rfl rfl rfl ?_
              refine Seq.nil ?_
              refine Post.weak (F' := [(0, _), (2, _), (3, _), (4, _), (5, _), (8, _), (10, _)]) ⟨rfl, rfl, rfl, rfl, rfl, rfl, rfl, trivial⟩ ?_
              refine Post.then_ ?_
              refine Cd.condF rfl rfl ?_
              refine Cd.seq ?_
              refine Cd.seq ?_
              refine Cd.region ?_
              refine Seq.val (Runs.eqlI rfl rfl rfl) rfl rfl rfl ?_
              refine Seq.val (Runs.assign rfl rfl) rfl rfl rfl ?_
              refine Seq.nil ?_
              refine Post.weak (F' := [(0, _), (2, _), (3, _), (4, _), (5, _), (8, _), (10, _), (13, _)]) ⟨rfl, rfl, rfl, rfl, rfl, rfl, rfl, rfl, trivial⟩ ?_
              refine Post.then_ ?_
              refine Cd.condT rfl rfl ?_
              refine Cd.skip ?_
              refine Post.then_ ?_
              refine Cd.condT rfl rfl ?_
              refine Cd.seq ?_
              refine Cd.region ?_
              refine Seq.val (Runs.assign rfl rfl) rfl rfl rfl ?_
              refine Seq.val (Runs.assign rfl rfl) rfl rfl rfl ?_
              refine Seq.nil ?_
              refine Post.weak (F' := [(0, _), (2, _), (3, _), (4, _), (5, _), (8, _), (10, _), (13, _)]) ⟨rfl, rfl, rfl, rfl, rfl, rfl, rfl, rfl, trivial⟩ ?_
              refine Post.then_ ?_
              refine Cd.ret ?_
              refine Post.block_ret ?_
              refine Post.then_ret ?_
              refine Post.end2 rfl rfl rfl (.inl rfl) ?_
              exact ⟨rfl, bel⟩
            · skip
              by_cases h7 : op = 7
              · subst h7
                refine Cd.seq ?_
                refine Cd.region ?_
                refine Seq.val (Runs.assign rfl rfl) rfl rfl rfl ?_
                refine Seq.val (Runs.assign rfl rfl) rfl rfl rfl ?_
                refine Seq.nil ?_
                refine Post.weak (F' := [(0, _), (2, _), (3, _)]) ⟨rfl, rfl, rfl, trivial⟩ ?_
                refine Post.then_ ?_
                refine Cd.seq ?_
                refine Cd.seq ?_
                refine Cd.region ?_
                refine Seq.val (Runs.move rfl rfl) rfl rfl rfl ?_
                refine Seq.nil ?_
                refine Post.weak (F' := [(0, _), (2, _), (3, _), (4, _)]) ⟨rfl, rfl, rfl, rfl, trivial⟩ ?_
                refine Post.then_ ?_
                refine Cd.block ?_
                refine Cd.seq ?_
                refine Cd.seq ?_
                refine Cd.region ?_
                refine Seq.val (Runs.eqlI rfl rfl rfl) rfl rfl rfl ?_
                refine Seq.val (Runs.assign rfl rfl) rfl rfl rfl ?_
                refine Seq.nil ?_
                refine Post.weak (F' := [(0, _), (2, _), (3, _), (4, _), (5, _)]) ⟨rfl, rfl, rfl, rfl, rfl, trivial⟩ ?_
                refine Post.then_ ?_
                refine Cd.condF rfl rfl ?_
                refine Cd.region ?_
                refine Seq.val (Runs.eqlI rfl rfl rfl) rfl rfl rfl ?_
                refine Seq.val (Runs.assign rfl rfl) rfl rfl rfl ?_
                refine Seq.nil ?_
                refine Post.weak (F' := [(0, _), (2, _), (3, _), (4, _), (5, _)]) ⟨rfl, rfl, rfl, rfl, rfl, trivial⟩ ?_
                refine Post.then_ ?_
                refine Cd.condF rfl rfl ?_
                refine Cd.seq ?_
                refine Cd.region ?_
                refine Seq.val (Runs.eqlI rfl rfl rfl) rfl rfl rfl ?_
                refine Seq.val (Runs.assign rfl rfl) rfl rfl rfl ?_
                refine Seq.nil ?_
                refine Post.weak (F' := [(0, _), (2, _), (3, _), (4, _), (5, _), (8, _)]) ⟨rfl, rfl, rfl, rfl, rfl, rfl, trivial⟩ ?_
                refine Post.then_ ?_
                refine Cd.condF rfl rfl ?_
                refine Cd.seq ?_
                refine Cd.seq ?_
                refine Cd.region ?_
                refine Seq.val (Runs.eqlI rfl rfl rfl) rfl rfl rfl ?_
                refine Seq.val (Runs.assign rfl rfl) rfl rfl rfl ?_
                refine Seq.nil ?_
                refine Post.weak (F' := [(0, _), (2, _), (3, _), (4, _), (5, _), (8, _), (10, _)]) ⟨rfl, rfl, rfl, rfl, rfl, rfl, rfl, trivial⟩ ?_
                refine Post.then_ ?_
                refine Cd.condF rfl rfl ?_
                refine Cd.region ?_
                refine Seq.val (Runs.eqlI rfl rfl rfl) rfl rfl rfl ?_
                refine Seq.val (Runs.assign rfl rfl) rfl rfl rfl ?_
                refine Seq.nil ?_
                refine Post.weak (F' := [(0, _), (2, _), (3, _), (4, _), (5, _), (8, _), (10, _)]) ⟨rfl, rfl, rfl, rfl, rfl, rfl, rfl, trivial⟩ ?_
                refine Post.then_ ?_
                refine Cd.condF rfl rfl ?_
                refine Cd.seq ?_
                refine Cd.seq ?_
                refine Cd.region ?_
                refine Seq.val (Runs.eqlI rfl rfl rfl) rfl rfl rfl ?_
                refine Seq.val (Runs.assign rfl rfl) rfl rfl rfl ?_
                refine Seq.nil ?_
                refine Post.weak (F' := [(0, _), (2, _), (3, _), (4, _), (5, _), (8, _), (10, _), (13, _)]) ⟨rfl, rfl, rfl, rfl, rfl, rfl, rfl, rfl, trivial⟩ ?_
                refine Post.then_ ?_
                refine Cd.condF rfl rfl ?_
                refine Cd.seq ?_
                refine Cd.region ?_
                refine Seq.val (Runs.eqlI rfl rfl rfl) rfl rfl rfl ?_
                refine Seq.val (Runs.assign rfl rfl) rfl rfl rfl ?_
                refine Seq.nil ?_
                refine Post.weak (F' := [(0, _), (2, _), (3, _), (4, _), (5, _), (8, _), (10, _), (13, _)]) ⟨rfl, rfl, rfl, rfl, rfl, rfl, rfl, rfl, trivial⟩ ?_
                refine Post.then_ ?_
                refine Cd.condT rfl rfl ?_
                refine Cd.skip ?_
                refine Post.then_ ?_
                refine Cd.condT rfl rfl ?_
                refine Cd.seq ?_
                refine Cd.region ?_
                refine Seq.val (Runs.assign rfl rfl) rfl rfl rfl ?_
                refine Seq.val (Runs.assign rfl rfl) rfl rfl rfl ?_
                refine Seq.nil ?_
                refine Post.weak (F' := [(0, _), (2, _), (3, _), (4, _), (5, _), (8, _), (10, _), (13, _)]) ⟨rfl, rfl, rfl, rfl, rfl, rfl, rfl, rfl, trivial⟩ ?_
                refine Post.then_ ?_
                refine Cd.ret ?_
                refine Post.block_ret ?_
                refine Post.then_ret ?_
                refine Post.end2 rfl rfl rfl (.inl rfl) ?_
                exact ⟨rfl, bel⟩
              · skip
                by_cases h8 : op = 8
                · subst h8
                  refine Cd.seq ?_
                  refine Cd.region ?_
                  refine Seq.val (Runs.assign rfl rfl) rfl rfl rfl ?_
                  refine Seq.val (Runs.assign rfl rfl) rfl rfl rfl ?_
                  refine Seq.nil ?_
                  refine Post.weak (F' := [(0, _), (2, _), (3, _)]) ⟨rfl, rfl, rfl, trivial⟩ ?_
                  refine Post.then_ ?_
                  refine Cd.seq ?_
                  refine Cd.seq ?_
                  refine Cd.region ?_
                  refine Seq.val (Runs.move rfl rfl) rfl rfl rfl ?_
                  refine Seq.nil ?_
                  refine Post.weak (F' := [(0, _), (2, _), (3, _), (4, _)]) ⟨rfl, rfl, rfl, rfl, trivial⟩ ?_
                  refine Post.then_ ?_
                  refine Cd.block ?_
                  refine Cd.seq ?_
                  refine Cd.seq ?_
                  refine Cd.region ?_
                  refine Seq.val (Runs.eqlI rfl rfl rfl) rfl rfl rfl ?_
                  refine Seq.val (Runs.assign rfl rfl) rfl rfl rfl ?_
                  refine Seq.nil ?_
                  refine Post.weak (F' := [(0, _), (2, _), (3, _), (4, _), (5, _)]) ⟨rfl, rfl, rfl, rfl, rfl, trivial⟩ ?_
                  refine Post.then_ ?_
                  refine Cd.condF rfl rfl ?_
                  refine Cd.region ?_
                  refine Seq.val (Runs.eqlI rfl rfl rfl) rfl rfl rfl ?_
                  refine Seq.val (Runs.assign rfl rfl) rfl rfl rfl ?_
                  refine Seq.nil ?_
                  refine Post.weak (F' := [(0, _), (2, _), (3, _), (4, _), (5, _)]) ⟨rfl, rfl, rfl, rfl, rfl, trivial⟩ ?_
                  refine Post.then_ ?_
                  refine Cd.condF rfl rfl ?_
                  refine Cd.seq ?_
                  refine Cd.region ?_
                  refine Seq.val (Runs.eqlI rfl rfl rfl) rfl rfl rfl ?_
                  refine Seq.val (Runs.assign rfl rfl) rfl rfl rfl ?_
                  refine Seq.nil ?_
                  refine Post.weak (F' := [(0, _), (2, _), (3, _), (4, _), (5, _), (8, _)]) ⟨rfl, rfl, rfl, rfl, rfl, rfl, trivial⟩ ?_
                  refine Post.then_ ?_
                  refine Cd.condF rfl rfl ?_
                  refine Cd.seq ?_
                  refine Cd.seq ?_
                  refine Cd.region ?_
                  refine Seq.val (Runs.eqlI rfl rfl rfl) rfl rfl rfl ?_
                  refine Seq.val (Runs.assign rfl rfl) rfl rfl rfl ?_
                  refine Seq.nil ?_
                  refine Post.weak (F' := [(0, _), (2, _), (3, _), (4, _), (5, _), (8, _), (10, _)]) ⟨rfl, rfl, rfl, rfl, rfl, rfl, rfl, trivial⟩ ?_
                  refine Post.then_ ?_
                  refine Cd.condF rfl rfl ?_
                  refine Cd.region ?_
                  refine Seq.val (Runs.eqlI rfl rfl rfl) rfl rfl rfl ?_
                  refine Seq.val (Runs.assign rfl rfl) rfl rfl rfl ?_
                  refine Seq.nil ?_
                  refine Post.weak (F' := [(0, _), (2, _), (3, _), (4, _), (5, _), (8, _), (10, _)]) ⟨rfl, rfl, rfl, rfl, rfl, rfl, rfl, trivial⟩ ?_
                  refine Post.then_ ?_
                  refine Cd.condF rfl rfl ?_
                  refine Cd.seq ?_
                  refine Cd.seq ?_
                  refine Cd.region ?_
                  refine Seq.val (Runs.eqlI rfl rfl rfl) rfl rfl rfl ?_
                  refine Seq.val (Runs.assign rfl rfl) rfl rfl rfl ?_
                  refine Seq.nil ?_
                  refine Post.weak (F' := [(0, _), (2, _), (3, _), (4, _), (5, _), (8, _), (10, _), (13, _)]) ⟨rfl, rfl, rfl, rfl, rfl, rfl, rfl, rfl, trivial⟩ ?_
                  refine Post.then_ ?_
                  refine Cd.condF rfl rfl ?_
                  refine Cd.seq ?_
                  refine Cd.region ?_
                  refine Seq.val (Runs.eqlI rfl rfl rfl) rfl rfl rfl ?_
                  refine Seq.val (Runs.assign rfl rfl) rfl rfl rfl ?_
                  refine Seq.nil ?_
                  refine Post.weak (F' := [(0, _), (2, _), (3, _), (4, _), (5, _), (8, _), (10, _), (13, _)]) ⟨rfl, rfl, rfl, rfl, rfl, rfl, rfl, rfl, trivial⟩ ?_
                  refine Post.then_ ?_
                  refine Cd.condF rfl rfl ?_
                  refine Cd.seq ?_
                  refine Cd.region ?_
                  refine Seq.val (Runs.eqlI rfl rfl rfl) rfl rfl rfl ?_
                  refine Seq.val (Runs.assign rfl rfl) rfl rfl rfl ?_
                  refine Seq.nil ?_
                  refine Post.weak (F' := [(0, _), (2, _), (3, _), (4, _), (5, _), (8, _), (10, _), (13, _)]) ⟨rfl, rfl, rfl, rfl, rfl, rfl, rfl, rfl, trivial⟩ ?_
                  refine Post.then_ ?_
                  refine Cd.condT rfl rfl ?_
                  refine Cd.skip ?_
                  refine Post.then_ ?_
                  refine Cd.condT rfl rfl ?_
                  refine Cd.seq ?_
                  refine Cd.region ?_
                  refine Seq.val (Runs.assign rfl rfl) rfl rfl rfl ?_
                  refine Seq.val (Runs.assign rfl rfl) rfl rfl rfl ?_
                  refine Seq.nil ?_
                  refine Post.weak (F' := [(0, _), (2, _), (3, _), (4, _), (5, _), (8, _), (10, _), (13, _)]) ⟨rfl, rfl, rfl, rfl, rfl, rfl, rfl, rfl, trivial⟩ ?_
                  refine Post.then_ ?_
                  refine Cd.ret ?_
                  refine Post.block_ret ?_
                  refine Post.then_ret ?_
                  refine Post.end2 rfl rfl rfl (.inl rfl) ?_
                  exact ⟨rfl, bel⟩
                · skip
                  by_cases h9 : op = 9
                  · subst h9
                    refine Cd.seq ?_
                    refine Cd.region ?_
                    refine Seq.val (Runs.assign rfl rfl) rfl rfl rfl ?_
                    refine Seq.val (Runs.assign rfl rfl) rfl rfl rfl ?_
                    refine Seq.nil ?_
                    refine Post.weak (F' := [(0, _), (2, _), (3, _)]) ⟨rfl, rfl, rfl, trivial⟩ ?_
                    refine Post.then_ ?_
                    refine Cd.seq ?_
                    refine Cd.seq ?_
                    refine Cd.region ?_
                    refine Seq.val (Runs.move rfl rfl) rfl rfl rfl ?_
                    refine Seq.nil ?_
                    refine Post.weak (F' := [(0, _), (2, _), (3, _), (4, _)]) ⟨rfl, rfl, rfl, rfl, trivial⟩ ?_
                    refine Post.then_ ?_
                    refine Cd.block ?_
                    refine Cd.seq ?_
                    refine Cd.seq ?_
                    refine Cd.region ?_
                    refine Seq.val (Runs.eqlI rfl rfl rfl) rfl rfl rfl ?_
                    refine Seq.val (Runs.assign rfl rfl) rfl rfl rfl ?_
                    refine Seq.nil ?_
                    refine Post.weak (F' := [(0, _), (2, _), (3, _), (4, _), (5, _)]) ⟨rfl, rfl, rfl, rfl, rfl, trivial⟩ ?_
                    refine Post.then_ ?_
                    refine Cd.condF rfl rfl ?_
                    refine Cd.region ?_
                    refine Seq.val (Runs.eqlI rfl rfl rfl) rfl rfl rfl ?_
                    refine Seq.val (Runs.assign rfl rfl) rfl rfl rfl ?_
                    refine Seq.nil ?_
                    refine Post.weak (F' := [(0, _), (2, _), (3, _), (4, _), (5, _)]) ⟨rfl, rfl, rfl, rfl, rfl, trivial⟩ ?_
                    refine Post.then_ ?_
                    refine Cd.condF rfl rfl ?_
                    refine Cd.seq ?_
                    refine Cd.region ?_
                    refine Seq.val (Runs.eqlI rfl rfl rfl) rfl rfl rfl ?_
                    refine Seq.val (Runs.assign rfl rfl) rfl rfl rfl ?_
                    refine Seq.nil ?_
                    refine Post.weak (F' := [(0, _), (2, _), (3, _), (4, _), (5, _), (8, _)]) ⟨rfl, rfl, rfl, rfl, rfl, rfl, trivial⟩ ?_
                    refine Post.then_ ?_
                    refine Cd.condF rfl rfl ?_
                    refine Cd.seq ?_
                    refine Cd.seq ?_
                    refine Cd.region ?_
                    refine Seq.val (Runs.eqlI rfl rfl rfl) rfl rfl rfl ?_
                    refine Seq.val (Runs.assign rfl rfl) rfl rfl rfl ?_
                    refine Seq.nil ?_
                    refine Post.weak (F' := [(0, _), (2, _), (3, _), (4, _), (5, _), (8, _), (10, _)]) ⟨rfl, rfl, rfl, rfl, rfl, rfl, rfl, trivial⟩ ?_
                    refine Post.then_ ?_
                    refine Cd.condF rfl rfl ?_
                    refine Cd.region ?_
                    refine Seq.val (Runs.eqlI rfl rfl rfl) rfl rfl rfl ?_
                    refine Seq.val (Runs.assign rfl rfl) rfl rfl rfl ?_
                    refine Seq.nil ?_
                    refine Post.weak (F' := [(0, _), (2, _), (3, _), (4, _), (5, _), (8, _), (10, _)]) ⟨rfl, rfl, rfl, rfl, rfl, rfl, rfl, trivial⟩ ?_
                    refine Post.then_ ?_
                    refine Cd.condF rfl rfl ?_
                    refine Cd.seq ?_
                    refine Cd.seq ?_
                    refine Cd.region ?_
                    refine Seq.val (Runs.eqlI rfl rfl rfl) rfl rfl rfl ?_
                    refine Seq.val (Runs.assign rfl rfl) rfl rfl rfl ?_
                    refine Seq.nil ?_
                    refine Post.weak (F' := [(0, _), (2, _), (3, _), (4, _), (5, _), (8, _), (10, _), (13, _)]) ⟨rfl, rfl, rfl, rfl, rfl, rfl, rfl, rfl, trivial⟩ ?_
                    refine Post.then_ ?_
                    refine Cd.condF rfl rfl ?_
                    refine Cd.seq ?_
                    refine Cd.region ?_
                    refine Seq.val (Runs.eqlI rfl rfl rfl) rfl rfl rfl ?_
                    refine Seq.val (Runs.assign rfl rfl) rfl rfl rfl ?_
                    refine Seq.nil ?_
                    refine Post.weak (F' := [(0, _), (2, _), (3, _), (4, _), (5, _), (8, _), (10, _), (13, _)]) ⟨rfl, rfl, rfl, rfl, rfl, rfl, rfl, rfl, trivial⟩ ?_
                    refine Post.then_ ?_
                    refine Cd.condF rfl rfl ?_
                    refine Cd.seq ?_
                    refine Cd.region ?_
                    refine Seq.val (Runs.eqlI rfl rfl rfl) rfl rfl rfl ?_
                    refine Seq.val (Runs.assign rfl rfl) rfl rfl rfl ?_
                    refine Seq.nil ?_
                    refine Post.weak (F' := [(0, _), (2, _), (3, _), (4, _), (5, _), (8, _), (10, _), (13, _)]) ⟨rfl, rfl, rfl, rfl, rfl, rfl, rfl, rfl, trivial⟩ ?_
                    refine Post.then_ ?_
                    refine Cd.condF rfl rfl ?_
                    refine Cd.region ?_
                    refine Seq.val (Runs.eqlI rfl rfl rfl) rfl rfl rfl ?_
                    refine Seq.val (Runs.assign rfl rfl) rfl rfl rfl ?_
                    refine Seq.nil ?_
                    refine Post.weak (F' := [(0, _), (2, _), (3, _), (4, _), (5, _), (8, _), (10, _), (13, _)]) ⟨rfl, rfl, rfl, rfl, rfl, rfl, rfl, rfl, trivial⟩ ?_
                    refine Post.then_ ?_
                    refine Cd.condT rfl rfl ?_
                    refine Cd.seq ?_
                    refine Cd.region ?_
                    refine Seq.val (Runs.assign rfl rfl) rfl rfl rfl ?_
                    refine Seq.val (Runs.assign rfl rfl) rfl rfl rfl ?_
                    refine Seq.nil ?_
                    refine Post.weak (F' := [(0, _), (2, _), (3, _), (4, _), (5, _), (8, _), (10, _), (13, _)]) ⟨rfl, rfl, rfl, rfl, rfl, rfl, rfl, rfl, trivial⟩ ?_
                    refine Post.then_ ?_
                    refine Cd.ret ?_
                    refine Post.block_ret ?_
                    refine Post.then_ret ?_
                    refine Post.end2 rfl rfl rfl (.inl rfl) ?_
                    exact ⟨rfl, bel⟩
                  · skip
                    refine Cd.seq ?_
                    refine Cd.region ?_
                    refine Seq.val (Runs.assign rfl rfl) rfl rfl rfl ?_
                    refine Seq.val (Runs.assign rfl rfl) rfl rfl rfl ?_
                    refine Seq.nil ?_
                    refine Post.weak (F' := [(0, _), (2, _), (3, _)]) ⟨rfl, rfl, rfl, trivial⟩ ?_
                    refine Post.then_ ?_
                    refine Cd.seq ?_
                    refine Cd.seq ?_
                    refine Cd.region ?_
                    refine Seq.val (Runs.move rfl rfl) rfl rfl rfl ?_
                    refine Seq.nil ?_
                    refine Post.weak (F' := [(0, _), (2, _), (3, _), (4, _)]) ⟨rfl, rfl, rfl, rfl, trivial⟩ ?_
                    refine Post.then_ ?_
                    refine Cd.block ?_
                    refine Cd.seq ?_
                    refine Cd.seq ?_
                    refine Cd.region ?_
                    refine Seq.val (Runs.eqlI rfl rfl rfl) rfl rfl rfl ?_
                    refine Seq.val (Runs.assign rfl rfl) rfl rfl rfl ?_
                    refine Seq.nil ?_
                    refine Post.weak (F' := [(0, _), (2, _), (3, _), (4, _), (5, _)]) ⟨rfl, rfl, rfl, rfl, rfl, trivial⟩ ?_
                    refine Post.then_ ?_
                    refine Cd.condF rfl (decide_eq_false h1) ?_
                    refine Cd.region ?_
                    refine Seq.val (Runs.eqlI rfl rfl rfl) rfl rfl rfl ?_
                    refine Seq.val (Runs.assign rfl rfl) rfl rfl rfl ?_
                    refine Seq.nil ?_
                    refine Post.weak (F' := [(0, _), (2, _), (3, _), (4, _), (5, _)]) ⟨rfl, rfl, rfl, rfl, rfl, trivial⟩ ?_
                    refine Post.then_ ?_
                    refine Cd.condF rfl (decide_eq_false h2) ?_
                    refine Cd.seq ?_
                    refine Cd.region ?_
                    refine Seq.val (Runs.eqlI rfl rfl rfl) rfl rfl rfl ?_
                    refine Seq.val (Runs.assign rfl rfl) rfl rfl rfl ?_
                    refine Seq.nil ?_
                    refine Post.weak (F' := [(0, _), (2, _), (3, _), (4, _), (5, _), (8, _)]) ⟨rfl, rfl, rfl, rfl, rfl, rfl, trivial⟩ ?_
                    refine Post.then_ ?_
                    refine Cd.condF rfl (decide_eq_false h3) ?_
                    refine Cd.seq ?_
                    refine Cd.seq ?_
                    refine Cd.region ?_
                    refine Seq.val (Runs.eqlI rfl rfl rfl) rfl rfl rfl ?_
                    refine Seq.val (Runs.assign rfl rfl) rfl rfl rfl ?_
                    refine Seq.nil ?_
                    refine Post.weak (F' := [(0, _), (2, _), (3, _), (4, _), (5, _), (8, _), (10, _)]) ⟨rfl, rfl, rfl, rfl, rfl, rfl, rfl, trivial⟩ ?_
                    refine Post.then_ ?_
                    refine Cd.condF rfl (decide_eq_false h4) ?_
                    refine Cd.region ?_
                    refine Seq.val (Runs.eqlI rfl rfl rfl) rfl rfl rfl ?_
                    refine Seq.val (Runs.assign rfl rfl) rfl rfl rfl ?_
                    refine Seq.nil ?_
                    refine Post.weak (F' := [(0, _), (2, _), (3, _), (4, _), (5, _), (8, _), (10, _)]) ⟨rfl, rfl, rfl, rfl, rfl, rfl, rfl, trivial⟩ ?_
                    refine Post.then_ ?_
                    refine Cd.condF rfl (decide_eq_false h5) ?_
                    refine Cd.seq ?_
                    refine Cd.seq ?_
                    refine Cd.region ?_
                    refine Seq.val (Runs.eqlI rfl rfl rfl) rfl rfl rfl ?_
                    refine Seq.val (Runs.assign rfl rfl) rfl rfl rfl ?_
                    refine Seq.nil ?_
                    refine Post.weak (F' := [(0, _), (2, _), (3, _), (4, _), (5, _), (8, _), (10, _), (13, _)]) ⟨rfl, rfl, rfl, rfl, rfl, rfl, rfl, rfl, trivial⟩ ?_
                    refine Post.then_ ?_
                    refine Cd.condF rfl (decide_eq_false h6) ?_
                    refine Cd.seq ?_
                    refine Cd.region ?_
                    refine Seq.val (Runs.eqlI rfl rfl rfl) rfl rfl rfl ?_
                    refine Seq.val (Runs.assign rfl rfl) rfl rfl rfl ?_
                    refine Seq.nil ?_
                    refine Post.weak (F' := [(0, _), (2, _), (3, _), (4, _), (5, _), (8, _), (10, _), (13, _)]) ⟨rfl, rfl, rfl, rfl, rfl, rfl, rfl, rfl, trivial⟩ ?_
                    refine Post.then_ ?_
                    refine Cd.condF rfl (decide_eq_false h7) ?_
                    refine Cd.seq ?_
                    refine Cd.region ?_
                    refine Seq.val (Runs.eqlI rfl rfl rfl) rfl rfl rfl ?_
                    refine Seq.val (Runs.assign rfl rfl) rfl rfl rfl ?_
                    refine Seq.nil ?_
                    refine Post.weak (F' := [(0, _), (2, _), (3, _), (4, _), (5, _), (8, _), (10, _), (13, _)]) ⟨rfl, rfl, rfl, rfl, rfl, rfl, rfl, rfl, trivial⟩ ?_
                    refine Post.then_ ?_
                    refine Cd.condF rfl (decide_eq_false h8) ?_
                    refine Cd.region ?_
                    refine Seq.val (Runs.eqlI rfl rfl rfl) rfl rfl rfl ?_
                    refine Seq.val (Runs.assign rfl rfl) rfl rfl rfl ?_
                    refine Seq.nil ?_
                    refine Post.weak (F' := [(0, _), (2, _), (3, _), (4, _), (5, _), (8, _), (10, _), (13, _)]) ⟨rfl, rfl, rfl, rfl, rfl, rfl, rfl, rfl, trivial⟩ ?_
                    refine Post.then_ ?_
                    refine Cd.condF rfl (decide_eq_false h9) ?_
                    refine Cd.skip ?_
                    refine Post.block_normal ?_
                    refine Post.then_ ?_
                    refine Cd.seq ?_
                    refine Cd.region ?_
                    refine Seq.val (Runs.assign rfl rfl) rfl rfl rfl ?_
                    refine Seq.val (Runs.assign rfl rfl) rfl rfl rfl ?_
                    refine Seq.nil ?_
                    refine Post.weak (F' := [(0, _), (2, _), (3, _), (4, _), (5, _), (8, _), (10, _), (13, _)]) ⟨rfl, rfl, rfl, rfl, rfl, rfl, rfl, rfl, trivial⟩ ?_
                    refine Post.then_ ?_
                    refine Cd.ret ?_
                    refine Post.end2 rfl rfl rfl (.inl rfl) ?_
                    have hb : arT op = (-1, -1) := by unfold arT; rw [if_neg (by omega), if_neg h3, if_neg (by omega), if_neg (by omega)]
                    rw [hb]
                    exact ⟨rfl, bel⟩
def headTB (op : Int) (nm : List Nat) (n m : Nat) : Bool := decide (arT op = ((n : Int), (m : Int))) && !(decide (op = 2) && !freeB nm) && !(decide (op ≠ 2) && decide (nm ≠ []))
mutual
def builtT : Tm → Bool
  | .mk op nm es l => headTB op nm es.length l.length && es.all builtB && builtTL l
def builtTL : List Tm → Bool
  | [] => true
  | e :: r => builtT e && builtTL r
end
theorem builtTL_all : ∀ l, builtTL l = l.all builtT
  | [] => by rw [builtTL]; rfl
  | e :: r => by rw [builtTL, builtTL_all r]; rfl
theorem builtT_eq (t : Tm) : builtT t = (headTB t.op t.name t.exprs.length t.terms.length && t.exprs.all builtB && t.terms.all builtT) := by
  cases t; rw [builtT, builtTL_all]; rfl
theorem eg_tbuilt1 : ∀ args w, (callFunc 120 args).run Try.prog w = .ok (.enter 120 args) w := fun args w => run_enter Try.func120 (by kernel_rfl) rfl args w
theorem eg_tbuilt2 : ∀ args w, (callFunc 122 args).run Try.prog w = .ok (.enter 122 args) w := fun args w => run_enter Try.func122 (by kernel_rfl) rfl args w
theorem built_any (N : Nat) : ∀ (t : Tm) (B : Nat) (v : Value) (w : World), t.nodes ≤ N → RepB w B t v → B ≤ w.heap.size → Calls Try.prog 69 #[v] w fun en w' => en = .returned (.bool (builtT t)) ∧ Grow w w' := by
  induction N with
  | zero => intro t B v w hN; have := t.nodes_pos; omega
  | succ N ih =>
  intro t B v w hN hrep hB
  obtain ⟨A, c, A', c', rfl, hv⟩ := hrep.open
  have bel := Below.refl w.heap.size w
  have hnm := hv.name
  have hnl := hv.nlen
  have h60 := hv.h60
  have h60' := hv.h60'
  have hbt := builtT_eq t
  have hdum : RepV w B (.mk 1 0 [] t.exprs) A c := ⟨hv.h60, by show I64 1; unfold I64; omega, by show I64 0; unfold I64; omega, fun d hd => (by cases hd), by show (0 : Nat) ≤ _; omega, fun i x hx => hv.expr i x hx⟩
  have hcl := fun W (hb : Below w.heap.size w W) => containsE_any 120 [] (fun x => !builtB x) B A c (.mk 1 0 [] t.exprs) W (hdum.below (hb.mono hB)) (Nat.le_trans hB hb.size) eg_tbuilt1 (fun x hx v W2 hb2 hr => by
    have hs2 := Nat.le_trans hB (Nat.le_trans hb.size hb2.size)
    have hrec := fun W3 (hb3 : Below W2.heap.size W2 W3) => builtExpr_any x.nodes x B v W3 (Nat.le_refl _) (hr.below (hb3.mono hs2)) (Nat.le_trans hs2 hb3.size)
    obtain ⟨Ax, cx, rfl, -⟩ := hr.open
    have bel := Below.refl W2.heap.size W2
    generalize builtB x = q at *
    refine Calls.start 6 Try.func120 rfl rfl rfl ?_
    refine Cd.seq ?_
    refine Cd.region ?_
    refine Seq.box rfl rfl rfl rfl rfl ?_
    intro g1 w1 n1
    have e1 := Nat.le_trans bel.size n1.ge
    replace bel := bel.step n1.below
    have k1 := n1.blk
    refine Seq.val (Runs.assign rfl rfl) rfl rfl rfl ?_
    refine Seq.nil ?_
    refine Post.weak (F' := [(0, _), (1, _), (2, _)]) ⟨rfl, rfl, rfl, trivial⟩ ?_
    refine Post.then_ ?_
    refine Cd.seq ?_
    refine Cd.region ?_
    refine Seq.val (Runs.loadW rfl rfl Try.underlying35 rfl k1 (m := 4) (by kernel_rfl) rfl) rfl rfl rfl ?_
    refine Seq.call (Enters.func rfl rfl rfl (run_enter Try.func76 (by kernel_rfl) rfl)) rfl rfl rfl (hrec _ bel) ?_
    rintro en w5 ⟨rfl, hb5⟩
    refine ⟨_, rfl, ?_⟩
    replace bel := bel.step hb5
    replace k1 := k1.step hb5
    refine Seq.val (Runs.not rfl rfl) rfl rfl rfl ?_
    refine Seq.val (Runs.assign rfl rfl) rfl rfl rfl ?_
    refine Seq.nil ?_
    refine Post.weak (F' := [(0, _), (1, _), (2, _)]) ⟨rfl, rfl, rfl, trivial⟩ ?_
    refine Post.then_ ?_
    refine Cd.ret ?_
    refine Post.end1 rfl rfl (.inl rfl) ?_
    exact ⟨rfl, bel⟩)
  have hcl2 := fun W (hb : Below w.heap.size w W) => containsT_any 122 [] (fun x => !builtT x) B A' c' t.terms W hv.h60' (hv.term.below (hb.mono hB)) (Nat.le_trans hB hb.size) eg_tbuilt2 (fun x hx v W2 hb2 hr => by
    have hxn := Tm.term_nodes hx
    have hs2 := Nat.le_trans hB (Nat.le_trans hb.size hb2.size)
    have hrec := fun W3 (hb3 : Below W2.heap.size W2 W3) => ih x B v W3 (by omega) (hr.below (hb3.mono hs2)) (Nat.le_trans hs2 hb3.size)
    obtain ⟨A1, c1, A2, c2, rfl, -⟩ := hr.open
    have bel := Below.refl W2.heap.size W2
    generalize builtT x = q at *
    refine Calls.start 6 Try.func122 rfl rfl rfl ?_
    refine Cd.seq ?_
    refine Cd.region ?_
    refine Seq.box rfl rfl rfl rfl rfl ?_
    intro g1 w1 n1
    have e1 := Nat.le_trans bel.size n1.ge
    replace bel := bel.step n1.below
    have k1 := n1.blk
    refine Seq.val (Runs.assign rfl rfl) rfl rfl rfl ?_
    refine Seq.nil ?_
    refine Post.weak (F' := [(0, _), (1, _), (2, _)]) ⟨rfl, rfl, rfl, trivial⟩ ?_
    refine Post.then_ ?_
    refine Cd.seq ?_
    refine Cd.region ?_
    refine Seq.val (Runs.loadW rfl rfl Try.underlying57 rfl k1 (m := 4) (by kernel_rfl) rfl) rfl rfl rfl ?_
    refine Seq.call (Enters.func rfl rfl rfl (run_enter Try.func69 (by kernel_rfl) rfl)) rfl rfl rfl (hrec _ bel) ?_
    rintro en w5 ⟨rfl, hb5⟩
    refine ⟨_, rfl, ?_⟩
    replace bel := bel.step hb5
    replace k1 := k1.step hb5
    refine Seq.val (Runs.not rfl rfl) rfl rfl rfl ?_
    refine Seq.val (Runs.assign rfl rfl) rfl rfl rfl ?_
    refine Seq.nil ?_
    refine Post.weak (F' := [(0, _), (1, _), (2, _)]) ⟨rfl, rfl, rfl, trivial⟩ ?_
    refine Post.then_ ?_
    refine Cd.ret ?_
    refine Post.end1 rfl rfl (.inl rfl) ?_
    exact ⟨rfl, bel⟩)
  replace hcl : ∀ W, Below w.heap.size w W → Calls Try.prog 119 #[.slice A t.exprs.length c, .func (.func 120) #[] #[]] W fun en w' => en = .returned (.bool (t.exprs.any fun x => !builtB x)) ∧ Grow W w' := hcl
  refine Calls.start 54 Try.func69 rfl rfl rfl ?_
  refine Cd.seq ?_
  refine Cd.region ?_
  refine Seq.box rfl rfl rfl rfl rfl ?_
  intro g1 w1 n1
  have e1 := Nat.le_trans bel.size n1.ge
  replace bel := bel.step n1.below
  have k1 := n1.blk
  refine Seq.val (Runs.assign rfl rfl) rfl rfl rfl ?_
  refine Seq.nil ?_
  refine Post.weak (F' := [(0, _), (1, _), (2, _)]) ⟨rfl, rfl, rfl, trivial⟩ ?_
  refine Post.then_ ?_
  refine Cd.seq ?_
  refine Cd.region ?_
  refine Seq.val (Runs.fieldB 0 rfl rfl Try.underlying57 rfl (by kernel_rfl)) rfl rfl rfl ?_
  refine Seq.val (Runs.loadB rfl rfl Try.underlying3 rfl k1 rfl) rfl rfl rfl ?_
  refine Seq.call (Enters.func rfl rfl rfl (run_enter Try.func117 (by kernel_rfl) rfl)) rfl rfl rfl (arities_any t.op _) ?_
  rintro en w5 ⟨rfl, hb5⟩
  refine ⟨_, rfl, ?_⟩
  replace bel := bel.step hb5
  replace k1 := k1.step hb5
  refine Seq.val (Runs.move rfl rfl) rfl rfl rfl ?_
  refine Seq.val (Runs.extract rfl rfl rfl) rfl rfl rfl ?_
  refine Seq.val (Runs.extract rfl rfl rfl) rfl rfl rfl ?_
  refine Seq.val (Runs.assign rfl rfl) rfl rfl rfl ?_
  refine Seq.val (Runs.assign rfl rfl) rfl rfl rfl ?_
  refine Seq.nil ?_
  refine Post.weak (F' := [(0, _), (1, _), (2, _), (3, _), (4, _)]) ⟨rfl, rfl, rfl, rfl, rfl, trivial⟩ ?_
  refine Post.then_ ?_
  refine Cd.seq ?_
  refine Cd.seq ?_
  refine Cd.region ?_
  refine Seq.val (Runs.move rfl rfl) rfl rfl rfl ?_
  refine Seq.val (Runs.fieldB 2 rfl rfl Try.underlying57 rfl (by kernel_rfl)) rfl rfl rfl ?_
  refine Seq.val (Runs.loadB rfl rfl Try.underlying25 rfl k1 rfl) rfl rfl rfl ?_
  refine Seq.val (Runs.len rfl rfl Try.underlying25) rfl rfl rfl ?_
  refine Seq.val (Runs.neqI rfl rfl rfl) rfl rfl rfl ?_
  refine Seq.val (Runs.move rfl rfl) rfl rfl rfl ?_
  refine SeqC.start ?_
  refine SeqC.open rfl rfl rfl rfl rfl rfl rfl (fun hcx => Runs.move rfl rfl) ?_
  refine SeqC.next rfl rfl rfl rfl rfl rfl rfl (fun hcx => Runs.fieldB 3 rfl rfl Try.underlying57 rfl (by kernel_rfl)) ?_
  refine SeqC.next rfl rfl rfl rfl rfl rfl rfl (fun hcx => Runs.loadB rfl rfl Try.underlying27 rfl k1 rfl) ?_
  refine SeqC.next rfl rfl rfl rfl rfl rfl rfl (fun hcx => Runs.len rfl rfl Try.underlying27) ?_
  refine SeqC.next rfl rfl rfl rfl rfl rfl rfl (fun hcx => Runs.neqI rfl rfl rfl) ?_
  refine SeqC.or rfl rfl rfl rfl rfl rfl rfl ?_
  refine Seq.val (Runs.move rfl rfl) rfl rfl rfl ?_
  refine SeqC.start ?_
  refine SeqC.open rfl rfl rfl rfl rfl rfl rfl (fun hcx => Runs.fieldB 0 rfl rfl Try.underlying57 rfl (by kernel_rfl)) ?_
  refine SeqC.next rfl rfl rfl rfl rfl rfl rfl (fun hcx => Runs.loadB rfl rfl Try.underlying3 rfl k1 rfl) ?_
  refine SeqC.next rfl rfl rfl rfl rfl rfl rfl (fun hcx => Runs.eqlI rfl rfl rfl) ?_
  refine SeqC.next rfl rfl rfl rfl rfl rfl rfl (fun hcx => Runs.move rfl rfl) ?_
  refine SeqC.open rfl rfl rfl rfl rfl rfl rfl (fun hcx => Runs.fieldB 1 rfl rfl Try.underlying57 rfl (by kernel_rfl)) ?_
  refine SeqC.next rfl rfl rfl rfl rfl rfl rfl (fun hcx => Runs.loadB rfl rfl Try.underlying9 rfl k1 rfl) ?_
  refine SeqC.nextC rfl rfl rfl rfl rfl rfl rfl (fun hcx => Enters.func rfl rfl rfl (run_enter Try.func118 (by kernel_rfl) rfl)) (fun hcx => free_any t.name _ hnm hnl) ?_
  intro w2 hw2
  replace bel := bel.step hw2
  replace k1 := k1.step hw2
  refine SeqC.next rfl rfl rfl rfl rfl rfl rfl (fun hcx => Runs.not rfl rfl) ?_
  refine SeqC.andG rfl rfl rfl rfl rfl rfl rfl rfl rfl rfl rfl ?_
  refine SeqC.or rfl rfl rfl rfl rfl rfl rfl ?_
  refine Seq.val (Runs.move rfl rfl) rfl rfl rfl ?_
  refine SeqC.start ?_
  refine SeqC.open rfl rfl rfl rfl rfl rfl rfl (fun hcx => Runs.fieldB 0 rfl rfl Try.underlying57 rfl (by kernel_rfl)) ?_
  refine SeqC.next rfl rfl rfl rfl rfl rfl rfl (fun hcx => Runs.loadB rfl rfl Try.underlying3 rfl k1 rfl) ?_
  refine SeqC.next rfl rfl rfl rfl rfl rfl rfl (fun hcx => Runs.neqI rfl rfl rfl) ?_
  refine SeqC.next rfl rfl rfl rfl rfl rfl rfl (fun hcx => Runs.move rfl rfl) ?_
  refine SeqC.open rfl rfl rfl rfl rfl rfl rfl (fun hcx => Runs.fieldB 1 rfl rfl Try.underlying57 rfl (by kernel_rfl)) ?_
  refine SeqC.next rfl rfl rfl rfl rfl rfl rfl (fun hcx => Runs.loadB rfl rfl Try.underlying9 rfl k1 rfl) ?_
  refine SeqC.next rfl rfl rfl rfl rfl rfl rfl (fun hcx => Runs.neqL (a := t.name) (b := []) rfl rfl rfl hnm (by decide)) ?_
  refine SeqC.andG rfl rfl rfl rfl rfl rfl rfl rfl rfl rfl rfl ?_
  refine SeqC.or rfl rfl rfl rfl rfl rfl rfl ?_
  refine Seq.nil ?_
  refine Post.weak (F' := [(0, _), (1, _), (2, _), (3, _), (4, _), (43, _)]) ⟨rfl, rfl, rfl, rfl, rfl, rfl, trivial⟩ ?_
  refine Post.then_ ?_
  refine Cd.cond rfl (fun h => ?_) (fun h => ?_)
  · have hhead : headTB t.op t.name t.exprs.length t.terms.length = false := by
      cases hq : headTB t.op t.name t.exprs.length t.terms.length with
      | false => rfl
      | true =>
        exfalso
        unfold headTB at hq
        simp at hq h
        obtain ⟨⟨a, b⟩, c⟩ := hq
        rw [a] at h
        simp at h
        rcases h with ⟨x, y⟩ | ⟨x, y⟩
        · rcases b with b | b
          · exact b x
          · rw [b] at y; cases y
        · rcases c with c | c
          · exact x c
          · exact y c
    rw [hhead] at hbt
    refine Cd.seq ?_
    refine Cd.region ?_
    refine Seq.val (Runs.assign rfl rfl) rfl rfl rfl ?_
    refine Seq.nil ?_
    refine Post.weak (F' := [(0, _), (1, _), (2, _), (3, _), (4, _), (43, _)]) ⟨rfl, rfl, rfl, rfl, rfl, rfl, trivial⟩ ?_
    refine Post.then_ ?_
    refine Cd.ret ?_
    refine Post.then_ret ?_
    refine Post.end1 rfl rfl (.inl rfl) ?_
    rw [hbt]
    exact ⟨rfl, bel⟩
  · have hhead : headTB t.op t.name t.exprs.length t.terms.length = true := by
      unfold headTB
      simp at h ⊢
      obtain ⟨⟨⟨a1, a2⟩, b⟩, c⟩ := h
      refine ⟨⟨Prod.ext a1 a2, ?_⟩, ?_⟩
      · by_cases h2 : t.op = 2
        · exact .inr (b h2)
        · exact .inl h2
      · by_cases h2 : t.op = 2
        · exact .inl h2
        · exact .inr (c h2)
    rw [hhead] at hbt
    refine Cd.skip ?_
    refine Post.then_ ?_
    refine Cd.seq ?_
    refine Cd.region ?_
    refine Seq.val (Runs.fieldB 2 rfl rfl Try.underlying57 rfl (by kernel_rfl)) rfl rfl rfl ?_
    refine Seq.val (Runs.loadB rfl rfl Try.underlying25 rfl k1 rfl) rfl rfl rfl ?_
    refine Seq.call (Enters.func rfl rfl rfl (run_enter Try.func119 (by kernel_rfl) rfl)) rfl rfl rfl (hcl _ bel) ?_
    rintro en w6 ⟨rfl, hb6⟩
    refine ⟨_, rfl, ?_⟩
    replace bel := bel.step hb6
    replace k1 := k1.step hb6
    refine Seq.val (Runs.not rfl rfl) rfl rfl rfl ?_
    refine Seq.val (Runs.move rfl rfl) rfl rfl rfl ?_
    refine SeqC.start ?_
    refine SeqC.open rfl rfl rfl rfl rfl rfl rfl (fun hcx => Runs.fieldB 3 rfl rfl Try.underlying57 rfl (by kernel_rfl)) ?_
    refine SeqC.next rfl rfl rfl rfl rfl rfl rfl (fun hcx => Runs.loadB rfl rfl Try.underlying27 rfl k1 rfl) ?_
    refine SeqC.nextC rfl rfl rfl rfl rfl rfl rfl (fun hcx => Enters.func rfl rfl rfl (run_enter Try.func121 (by kernel_rfl) rfl)) (fun hcx => hcl2 _ bel) ?_
    intro w3 hw3
    replace bel := bel.step hw3
    replace k1 := k1.step hw3
    refine SeqC.next rfl rfl rfl rfl rfl rfl rfl (fun hcx => Runs.not rfl rfl) ?_
    refine SeqC.and rfl rfl rfl rfl rfl rfl rfl ?_
    refine Seq.val (Runs.assign rfl rfl) rfl rfl rfl ?_
    refine Seq.nil ?_
    refine Post.weak (F' := [(0, _), (1, _), (2, _), (3, _), (4, _), (43, _)]) ⟨rfl, rfl, rfl, rfl, rfl, rfl, trivial⟩ ?_
    refine Post.then_ ?_
    refine Cd.ret ?_
    refine Post.end1 rfl rfl (.inl rfl) ?_
    refine ⟨ret1 (bool_eq ?_), bel⟩
    rw [hbt, List.all_eq_not_any_not, List.all_eq_not_any_not, Bool.true_and]
/-- Whether a term is right. -/
def rightT (t : Tm) : Bool := decide (t.nodes ≤ 200) && decide (t.depth ≤ 16) && builtT t
end Go.Proofs.Ytijaldpmpjapiaa

namespace Go.Proofs.Ytijaldpmpjapiaa
open Go.RowKit

end Go.Proofs.Ytijaldpmpjapiaa

namespace Go.Proofs.Ytijaldpmpjapiaa
open Go.RowKit

/-- A knot. -/
structure Kn where
  op : Int
  name : List Nat
  exprs : List Int
  terms : List Int
structure Kn.rng (x : Kn) : Prop where
  op : I64 x.op
  name : ∀ d ∈ x.name, d < 256
  nlen : x.name.length ≤ 9223372036854775807
def zMuch (t : Tm) : Int := (toldZ (t.nodes : Int) (t.depth : Int)).1
def zDeep (t : Tm) : Int := (toldZ (t.nodes : Int) (t.depth : Int)).2
def sumM : List Tm → Int
  | [] => 0
  | e :: r => zMuch e + sumM r
def maxM : List Tm → Int
  | [] => 0
  | e :: r => max (zDeep e) (maxM r)
/-- What a knot has within. -/
def pickM (ts : List Tm) (ks : List Int) : List Tm := ks.filterMap fun k => if ts.length = 0 then none else ts[earl k ts.length]?
def knotT (es : List Ex) (ts : List Tm) (x : Kn) : Tm := .mk x.op x.name (pickK es (x.exprs.take 3)) (pickM ts (x.terms.take 4))
def addT (es : List Ex) (ts : List Tm) (x : Kn) : List Tm := ts ++ [knotT es ts x]
/-- The terms of knots. -/
def termsOf (es : List Ex) (ks : List Kn) : List Tm := ks.foldl (addT es) []
/-- Knots that lie in memory. -/
def KnAt (w : World) (B : Nat) (A : Option Addr) (xs : List Kn) : Prop := ∀ i x, xs[i]? = some x → ∃ ad A1 A2 c1 c2, A = some ad ∧ ad.block < B ∧ Reads w B 1 A1 x.exprs.length (DI x.exprs) ∧ Reads w B 1 A2 x.terms.length (DI x.terms) ∧ ∀ (j : Nat) (u : Value), ([.int .i64 x.op, .string (strOf x.name), .slice A1 x.exprs.length c1, .slice A2 x.terms.length c2] : List Value)[j]? = some u → w.cell? ((ad.add (i * 4)).add j) = some u
theorem KnAt.below {w w' : World} {B : Nat} {A : Option Addr} {xs : List Kn} (h : KnAt w B A xs) (hb : Below B w w') : KnAt w' B A xs := fun i x hx => by
  obtain ⟨ad, A1, A2, c1, c2, e1, e2, e3, e3', e4⟩ := h i x hx
  exact ⟨ad, A1, A2, c1, c2, e1, e2, e3.below hb, e3'.below hb, fun j u hu => (hb.cell (by rw [block_of_add, block_of_add]; exact e2)).trans (e4 j u hu)⟩
/-- Terms that are made, in blocks of a list. -/
structure ForestT (w : World) (T : List Nat) (ts : List Tm) (vs : List Value) : Prop where
  len : vs.length = ts.length
  lt : ∀ b ∈ T, b < w.heap.size
  rep : ∀ (i : Nat) (e : Tm) (v : Value), ts[i]? = some e → vs[i]? = some v → RepT w (· ∈ T) e v
section
variable {w w' : World} {T : List Nat} {ts : List Tm} {vs : List Value}
theorem ForestT.keep (h : ForestT w T ts vs) (hs : w.heap.size ≤ w'.heap.size) (hb : ∀ b ∈ T, w'.heap[b]? = w.heap[b]?) : ForestT w' T ts vs :=
  ⟨h.len, fun b hm => Nat.lt_of_lt_of_le (h.lt b hm) hs, fun i e v he hv => (h.rep i e v he hv).mono (fun _ h => h) (fun p hp => World.cell?_of_block (hb p.block hp))⟩
theorem ForestT.step (h : ForestT w T ts vs) (hb : Below w.heap.size w w') : ForestT w' T ts vs := h.keep hb.size (fun b hm => hb.block b (h.lt b hm))
theorem ForestT.grown {row : Option Nat} (h : ForestT w T ts vs) (hg : w.grownBy w' row) (hne : ∀ b, row = some b → b ∉ T) : ForestT w' T ts vs := h.keep hg.size (fun b hm => hg.block b (h.lt b hm) (fun e => hne b e.symm hm))
theorem ForestT.nil (w : World) (T : List Nat) (hlt : ∀ b ∈ T, b < w.heap.size) : ForestT w T [] [] := ⟨rfl, hlt, fun i e v h => by cases h⟩
theorem ForestT.cells (h : ForestT w T ts vs) : sizes 4 vs := by
  have : ∀ v ∈ vs, v.cells.size = 4 := fun v hv => by
    obtain ⟨k, hk, rfl⟩ := List.getElem_of_mem hv
    obtain ⟨z, hz⟩ : ∃ z, ts[k]? = some z := ⟨_, List.getElem?_eq_getElem (by have := h.len; omega)⟩
    exact (h.rep k z _ hz (List.getElem?_eq_getElem hk)).cells4
  clear h
  induction vs with
  | nil => trivial
  | cons v r ih => exact ⟨this v List.mem_cons_self, ih (fun u hu => this u (List.mem_cons_of_mem _ hu))⟩
theorem ForestT.app {B : Nat} {v : Value} (h : ForestT w T ts vs) (hv : Apart v T) (ha : App w w' B v) : ForestT w' T ts vs := h.grown ha.grown fun b e => hv b e
theorem ForestT.put {g B : Nat} {t : TypeId} {cur cs : Array Value} (h : ForestT w T ts vs) (_k : Blk w g t cur) (p : Put w w' g t cs) (_e : B ≤ g) (hne : g ∉ T := by assumption) : ForestT w' T ts vs :=
  h.grown p.grown fun b e => by injection e with e; exact e ▸ hne
end
theorem rows_of {w : World} {B len : Nat} {ty : TypeId} {vA : Value} {avs : List Value} {S : Nat → Prop} (hA : Own w B ty 4 vA len (flatC avs)) (hS : ∀ b, vA.ownBlock = some b → S b) : ∃ A c, vA = .slice A len c ∧ (0 < len → Rows w S A (flatC avs)) := by
  obtain ⟨A, c, rfl, hrd⟩ := hA.reads
  refine ⟨A, c, rfl, fun h0 hne => ?_⟩
  obtain ⟨ad, rfl, -, hc⟩ := hrd.2 h0
  exact ⟨ad, rfl, hS _ rfl, hc⟩
theorem rows_nil {w : World} {S : Nat → Prop} {A : Option Addr} {avs : List Value} (h : avs.length = 0) : Rows w S A (flatC avs) := fun hne => by
  rw [List.eq_nil_of_length_eq_zero h] at hne
  exact absurd rfl hne
/-- A forest that has one term more. -/
theorem ForestT.more {w : World} {T : List Nat} {ts args : List Tm} {eargs : List Ex} {vs avs evs : List Value} {B B' : Nat} {o : Int} {nm : List Nat} {vE vT : Value} (h : ForestT w T ts vs) (hle : evs.length = eargs.length) (hl : avs.length = args.length) (h60' : eargs.length ≤ 1000) (h60 : args.length ≤ 1000) (hop : I64 o) (hnm : ∀ d ∈ nm, d < 256) (hnl : nm.length ≤ 9223372036854775807)
    (hre : ∀ (i : Nat) (e : Ex) (v : Value), eargs[i]? = some e → evs[i]? = some v → RepE w (· ∈ T) e v) (hr : ∀ (i : Nat) (e : Tm) (v : Value), args[i]? = some e → avs[i]? = some v → RepT w (· ∈ T) e v) (hE : Own w B' 35 4 vE eargs.length (flatC evs)) (hA : Own w B 57 4 vT args.length (flatC avs)) :
    ForestT w (blocksOf vE ++ (blocksOf vT ++ T)) (ts ++ [.mk o nm eargs args]) (vs ++ [.agg #[.int .i64 o, .string (strOf nm), vE, vT]]) := by
  have hbE := hE.blockLt
  have hbT := hA.blockLt
  obtain ⟨AE, cE, rfl, hRE⟩ := rows_of (S := (· ∈ blocksOf vE ++ (blocksOf vT ++ T))) hE (fun b hb => List.mem_append_left _ (mem_blocksOf.2 hb))
  obtain ⟨AT, cT, rfl, hRT⟩ := rows_of (S := (· ∈ blocksOf (.slice AE eargs.length cE) ++ (blocksOf vT ++ T))) hA (fun b hb => List.mem_append_right _ (List.mem_append_left _ (mem_blocksOf.2 hb)))
  refine ⟨by rw [List.length_append, List.length_append, h.len]; rfl, fun b hm => ?_, fun i e v he hvi => ?_⟩
  · rcases List.mem_append.1 hm with hm | hm
    · exact (hbE b (mem_blocksOf.1 hm)).2
    · rcases List.mem_append.1 hm with hm | hm
      · exact (hbT b (mem_blocksOf.1 hm)).2
      · exact h.lt b hm
  · rcases Nat.lt_or_ge i ts.length with hi | hi
    · rw [List.getElem?_append_left hi] at he
      rw [List.getElem?_append_left (by rw [h.len]; exact hi)] at hvi
      exact (h.rep i e v he hvi).mono (fun b hb => List.mem_append_right _ (List.mem_append_right _ hb)) (fun _ _ => rfl)
    · rw [List.getElem?_append_right hi] at he
      rw [List.getElem?_append_right (by rw [h.len]; exact hi), h.len] at hvi
      have h0 : i - ts.length = 0 := by
        have := (List.getElem?_eq_some_iff.1 he).1
        simp at this
        exact this
      rw [h0] at he hvi
      injection he with he
      injection hvi with hvi
      subst he hvi
      refine .mk hle hl h60' h60 hop hnm hnl (fun i e v he hv => (hre i e v he hv).mono (fun b hb => List.mem_append_right _ (List.mem_append_right _ hb)) (fun _ _ => rfl)) (fun i e v he hv => (hr i e v he hv).mono (fun b hb => List.mem_append_right _ (List.mem_append_right _ hb)) (fun _ _ => rfl)) ?_ ?_
      · rcases Nat.eq_zero_or_pos eargs.length with h0 | h0
        · exact rows_nil (by omega)
        · exact hRE h0
      · rcases Nat.eq_zero_or_pos args.length with h0 | h0
        · exact rows_nil (by omega)
        · exact hRT h0
end Go.Proofs.Ytijaldpmpjapiaa

namespace Go.Proofs.Ytijaldpmpjapiaa
open Go.RowKit

/-- What Build answers. -/
def BuiltK (es : List Ex) (ts : List Tm) (v : Value) (w : World) : Prop := ∃ T T' B B' vs us vE vN vD vT vM vP, v = .agg #[vE, vN, vD, vT, vM, vP] ∧ Forest w T es vs ∧ ForestT w T' ts us ∧ Own w B 35 4 vE es.length (flatC vs) ∧ Own w B 3 1 vN es.length (DI (es.map zNodes)) ∧ Own w B 3 1 vD es.length (DI (es.map zDepth)) ∧
  Own w B' 57 4 vT ts.length (flatC us) ∧ Own w B' 3 1 vM ts.length (DI (ts.map zMuch)) ∧ Own w B' 3 1 vP ts.length (DI (ts.map zDeep))
end Go.Proofs.Ytijaldpmpjapiaa

namespace Go.Proofs.Ytijaldpmpjapiaa
open Go.RowKit

/-- A tree's values. -/
def treeK (n m : Nat) (AE AN AD AT AM AP : Option Addr) (cE cN cD cT cM cP : Nat) : Value := .agg #[.slice AE n cE, .slice AN n cN, .slice AD n cD, .slice AT m cT, .slice AM m cM, .slice AP m cP]
structure TreeT (w : World) (B : Nat) (ts : List Tm) (AT AM AP : Option Addr) : Prop where
  term : TmAt w B ts AT
  much : Reads w B 1 AM ts.length (DI (ts.map zMuch))
  deep : Reads w B 1 AP ts.length (DI (ts.map zDeep))
theorem TreeT.below {w w' : World} {B : Nat} {ts : List Tm} {AT AM AP : Option Addr} (h : TreeT w B ts AT AM AP) (hb : Below B w w') : TreeT w' B ts AT AM AP := ⟨h.term.below hb, h.much.below hb, h.deep.below hb⟩
theorem TmAt.more {w : World} {B B' : Nat} {ts : List Tm} {A : Option Addr} (h : TmAt w B ts A) (hb : B ≤ B') : TmAt w B' ts A := fun i x hx => by
  obtain ⟨ad, A1, A2, c1, c2, e1, e2, e3, e4⟩ := h i x hx
  exact ⟨ad, A1, A2, c1, c2, e1, Nat.lt_of_lt_of_le e2 hb, e3.more hb, e4⟩
theorem TreeT.more {w : World} {B B' : Nat} {ts : List Tm} {AT AM AP : Option Addr} (h : TreeT w B ts AT AM AP) (hb : B ≤ B') : TreeT w B' ts AT AM AP := ⟨h.term.more hb, h.much.more hb, h.deep.more hb⟩
theorem tmAt_own {w : World} {T : List Nat} {ts : List Tm} {vs : List Value} {B c : Nat} {A : Option Addr} (ft : ForestT w T ts vs) (hE : Own w B 57 4 (.slice A ts.length c) ts.length (flatC vs)) : TmAt w w.heap.size ts A := fun i e he => by
  have h4 : ∀ y ∈ vs, y.cells.size = 4 := sizes_spec ft.cells
  obtain ⟨A', c', hv, hr⟩ := hE.reads
  injection hv with e1 _ _
  subst e1
  have hi := (List.getElem?_eq_some_iff.1 he).1
  obtain ⟨ev, hev⟩ : ∃ ev, vs[i]? = some ev := ⟨_, List.getElem?_eq_getElem (by rw [ft.len]; omega)⟩
  have hre := ft.rep i e ev he hev
  obtain ⟨A1, c1, A2, c2, rfl⟩ := hre.form
  obtain ⟨ad, rfl, hb, hc⟩ := hr.2 (by omega)
  exact ⟨ad, A1, A2, c1, c2, rfl, hb, hre.mono (fun b hm => ft.lt b hm) (fun _ _ => rfl), fun j u hu => by rw [add_of_add]; exact hc _ _ (flatC_at h4 hev j u (by simpa [Value.cells, tmV] using hu))⟩
theorem BuiltK.tree {es : List Ex} {ts : List Tm} {v : Value} {w : World} (h : BuiltK es ts v w) : ∃ AE AN AD AT AM AP cE cN cD cT cM cP, v = treeK es.length ts.length AE AN AD AT AM AP cE cN cD cT cM cP ∧ TreeR w w.heap.size es AE AN AD ∧ TreeT w w.heap.size ts AT AM AP := by
  obtain ⟨T, T', B, B', vs, us, vE, vN, vD, vT, vM, vP, rfl, fo, ft, oE, oN, oD, oT, oM, oP⟩ := h
  have hb : BuiltR B es (.agg #[vE, vN, vD, .slice none 0 0, .slice none 0 0, .slice none 0 0]) w := ⟨T, vs, vE, vN, vD, rfl, fo, oE, oN, oD⟩
  obtain ⟨AE, AN, AD, cE, cN, cD, hv, tr⟩ := hb.tree
  obtain ⟨AT, cT, rfl, -⟩ := oT.reads
  obtain ⟨AM, cM, rfl, hM⟩ := oM.reads
  obtain ⟨AP, cP, rfl, hP⟩ := oP.reads
  unfold treeV at hv
  have e1 : vE = .slice AE es.length cE ∧ vN = .slice AN es.length cN ∧ vD = .slice AD es.length cD := by simpa using hv
  obtain ⟨rfl, rfl, rfl⟩ := e1
  exact ⟨AE, AN, AD, AT, AM, AP, cE, cN, cD, cT, cM, cP, rfl, tr, tmAt_own ft oT, hM, hP⟩
end Go.Proofs.Ytijaldpmpjapiaa

namespace Go.Proofs.Ytijaldpmpjapiaa
open Go.RowKit

def wordsT : List (List Nat) := [[122, 101, 114, 111], [111, 110, 101], [103, 105, 118, 101], [97, 110, 100], [111, 114], [115, 99, 97, 108, 101], [119, 104, 101, 110], [117, 110, 116, 105, 108], [97, 110, 121, 116, 105, 109, 101]]
/-- A term's word. -/
def wordT (op : Int) : List Nat := wordsT.getD (op - 1).toNat []
mutual
/-- A term's text. -/
def termT : Tm → List Nat
  | .mk op nm es l => if op = 1 then [122, 101, 114, 111] else wordT op ++ [40] ++ joinT ((if op = 2 then [nm] else []) ++ es.map exprT ++ termTL l) ++ [41]
def termTL : List Tm → List (List Nat)
  | [] => []
  | t :: r => termT t :: termTL r
end
end Go.Proofs.Ytijaldpmpjapiaa

namespace Go.Proofs.Ytijaldpmpjapiaa
open Go.RowKit

end Go.Proofs.Ytijaldpmpjapiaa

namespace Go.Proofs.Ytijaldpmpjapiaa
open Go.RowKit

def strs (l : List (List Nat)) : List Value := l.map fun s => .string (strOf s)
end Go.Proofs.Ytijaldpmpjapiaa

namespace Go.Proofs.Ytijaldpmpjapiaa
open Go.RowKit

/-- The blanks of so many levels. -/
def blanksT (n : Nat) : List Nat := List.replicate (2 * n) 32
/-- Rows, each on a line of its own behind some blanks, with commas between. -/
def segs (m : List Nat) : List (List Nat) → List Nat
  | [] => []
  | x :: r => [10] ++ m ++ x ++ r.flatMap fun y => [44, 10] ++ m ++ y
mutual
/-- A term's lines, at a level. -/
def linesT (deep : Nat) : Tm → List Nat
  | .mk op nm es l => if l = [] then termT (.mk op nm es l) else wordT op ++ [40] ++ segs (blanksT (deep + 1)) (es.map exprT ++ linesTL (deep + 1) l) ++ [10] ++ blanksT deep ++ [41]
def linesTL (deep : Nat) : List Tm → List (List Nat)
  | [] => []
  | t :: r => linesT deep t :: linesTL deep r
end
/-- What stands within a term. -/
def rowsT (deep : Nat) (t : Tm) : List (List Nat) := t.exprs.map exprT ++ t.terms.map (linesT (deep + 1))
end Go.Proofs.Ytijaldpmpjapiaa

namespace Go.Proofs.Ytijaldpmpjapiaa
open Go.RowKit

/-- What is written of the lines, ahead of a row. -/
def linesA (m word : List Nat) (rows : List (List Nat)) (k : Nat) : List Nat := word ++ [40] ++ segs m (rows.take k) ++ (if k = 0 ∨ k = rows.length then [10] else [44, 10])
end Go.Proofs.Ytijaldpmpjapiaa

namespace Go.Proofs.Ytijaldpmpjapiaa
open Go.RowKit

def blanks128 : List Nat := List.replicate 128 32
end Go.Proofs.Ytijaldpmpjapiaa

namespace Go.Proofs.Ytijaldpmpjapiaa
open Go.RowKit

/-- What is known of the terms within. -/
def RecT (B g L : Nat) (t : Tm) : Prop := ∀ (x : Tm) (A1 A2 : Option Addr) (c1 c2 : Nat), x ∈ t.terms → ∀ (W : World) (bs' : List Nat), RepB W B x (.agg (tmV x A1 A2 c1 c2).toArray) → Bw W B g bs' → bs'.length ≤ L → Calls Try.prog 59 #[.pointer (some ⟨g, 0, none⟩), .agg (tmV x A1 A2 c1 c2).toArray] W (WrRet B g (bs' ++ termT x) W)
def rowsP (t : Tm) : List (List Nat) := t.exprs.map exprT ++ t.terms.map termT
end Go.Proofs.Ytijaldpmpjapiaa

namespace Go.Proofs.Ytijaldpmpjapiaa
open Go.RowKit

/-- What is known of the terms within. -/
def RecS (B g L d : Nat) (t : Tm) : Prop := ∀ (x : Tm) (A1 A2 : Option Addr) (c1 c2 : Nat), x ∈ t.terms → ∀ (W : World) (bs' : List Nat), RepB W B x (.agg (tmV x A1 A2 c1 c2).toArray) → Bw W B g bs' → bs'.length ≤ L → Calls Try.prog 61 #[.pointer (some ⟨g, 0, none⟩), .agg (tmV x A1 A2 c1 c2).toArray, .int .i64 ((d + 1 : Nat) : Int)] W (WrRet B g (bs' ++ linesT (d + 1) x) W)
end Go.Proofs.Ytijaldpmpjapiaa

namespace Go.Proofs.Ytijaldpmpjapiaa
open Go.RowKit

/-- A right term's text, or none. -/
def textR (t : Tm) : List Nat := if rightT t = true then termT t else []
def linesR (t : Tm) : List Nat := if rightT t = true then linesT 0 t else []
end Go.Proofs.Ytijaldpmpjapiaa

namespace Go.Proofs.Ytijaldpmpjapiaa

/-- What comes of going through words: none within the fuel; a stop at a place, perhaps as too many are open; or a result, and its place. -/
inductive Rs (α : Type) where
  | out
  | bad (pos : Nat) (over : Bool)
  | ok (a : α) (pos : Nat)
def Rs.bind {α β : Type} (r : Rs α) (f : α → Nat → Rs β) : Rs β := match r with
  | .out => .out
  | .bad p o => .bad p o
  | .ok a p => f a p
section
variable {α β : Type}
theorem Rs.bind_bad (p : Nat) (o : Bool) (f : α → Nat → Rs β) : (Rs.bad p o).bind f = .bad p o := rfl
theorem Rs.bind_ok (a : α) (p : Nat) (f : α → Nat → Rs β) : (Rs.ok a p).bind f = f a p := rfl
theorem Rs.bind_assoc {γ : Type} (r : Rs α) (f : α → Nat → Rs β) (g : β → Nat → Rs γ) : (r.bind f).bind g = r.bind fun a p => (f a p).bind g := by cases r <;> rfl
theorem Rs.bind_ne {r : Rs α} {f : α → Nat → Rs β} (h : r.bind f ≠ .out) : r ≠ .out := fun e => h (by rw [e]; rfl)
theorem Rs.ok_or {r : Rs α} (h : r ≠ .out) : (∃ p o, r = .bad p o) ∨ ∃ a p, r = .ok a p := by
  cases r with
  | out => exact absurd rfl h
  | bad p o => exact .inl ⟨p, o, rfl⟩
  | ok a p => exact .inr ⟨a, p, rfl⟩
end
/-- The word at a place; none at the end. -/
def wAt (ws : List Wd) (p : Nat) : Wd := ws.getD p ⟨-1, [], 0, 0⟩
def isS (ws : List Wd) (p : Nat) (s : List Nat) : Bool := decide ((wAt ws p).kind = 0) && decide ((wAt ws p).text = s)
def signQ (ws : List Wd) (s : List Nat) (p : Nat) : Rs Unit := if isS ws p s = true then .ok () (p + 1) else .bad p false
def enterP (p d : Nat) : Rs Unit := if 64 < d + 1 then .bad p true else .ok () p
/-- The signs of a level, and their ops. -/
def signsAt : Nat → List (List Nat)
  | 0 => [[124]]
  | 1 => [[38]]
  | 2 => [[60], [60, 61], [61], [33, 61], [62, 61], [62]]
  | 3 => [[43], [45]]
  | 4 => [[42], [47]]
  | _ => []
def opsAt : Nat → List Int
  | 0 => [18]
  | 1 => [17]
  | 2 => [11, 12, 13, 14, 15, 16]
  | 3 => [5, 6]
  | 4 => [7, 8]
  | _ => []
/-- The op of a level that stands at a place. -/
def opAt (ws : List Wd) (lvl p : Nat) : Option Int := if (wAt ws p).kind ≠ 0 then none else if (wAt ws p).text ∈ signsAt lvl then (opsAt lvl)[(signsAt lvl).idxOf (wAt ws p).text]? else none
def mk2 (op : Int) (a b : Ex) : Ex := .mk op 0 [] [a, b]
def dayW : List Nat := [100, 97, 121]
def minW : List Nat := [109, 105, 110]
def maxW : List Nat := [109, 97, 120]
def ifW : List Nat := [105, 102]
def zeroW : List Nat := [122, 101, 114, 111]
def oneW : List Nat := [111, 110, 101]
/-- Parts, with commas between. -/
def partsP {α : Type} (ws : List Wd) : List (Nat → Nat → Rs α) → Bool → Nat → Nat → Rs (List α)
  | [], _, p, _ => .ok [] p
  | one :: r, first, p, d => (if first = true then Rs.ok () p else signQ ws [44] p).bind fun _ p => (one p d).bind fun x p => (partsP ws r false p d).bind fun xs p => .ok (x :: xs) p
/-- Parts in parentheses. -/
def withinP {α : Type} (ws : List Wd) (ones : List (Nat → Nat → Rs α)) (p d : Nat) : Rs (List α) := (signQ ws [40] p).bind fun _ p => (enterP p d).bind fun _ p => (partsP ws ones true p (d + 1)).bind fun xs p => (signQ ws [41] p).bind fun _ p => .ok xs p
def calledP (ws : List Wd) (E0 : Nat → Nat → Rs Ex) (op : Int) (k p d : Nat) : Rs Ex := (withinP ws (List.replicate k E0) (p + 1) d).bind fun xs p => .ok (.mk op 0 [] xs) p
def nameP (ws : List Wd) (p : Nat) : Rs (List Nat) := if (wAt ws p).kind = 3 ∧ reservedB (wAt ws p).text = false then .ok (wAt ws p).text (p + 1) else .bad p false
def atomP (ws : List Wd) (E0 : Nat → Nat → Rs Ex) (p d : Nat) : Rs Ex :=
  if (wAt ws p).kind = 1 then .ok (.mk 1 (wAt ws p).n [] []) (p + 1)
  else if (wAt ws p).kind = 2 then .ok (.mk 2 (wAt ws p).n [] []) (p + 1)
  else if (wAt ws p).kind = 3 then
    if (wAt ws p).text = dayW then .ok (.mk 4 0 [] []) (p + 1)
    else if (wAt ws p).text = minW then calledP ws E0 9 2 p d
    else if (wAt ws p).text = maxW then calledP ws E0 10 2 p d
    else if (wAt ws p).text = ifW then calledP ws E0 21 3 p d
    else (nameP ws p).bind fun nm p => .ok (.mk 3 0 nm []) p
  else if (wAt ws p).kind = 0 then (withinP ws [E0] p d).bind fun xs p => .ok (xs.getD 0 (.mk 0 0 [] [])) p
  else .bad p false
/-- An expression with a sign ahead. -/
def aheadP (S : Nat → Nat → Rs Ex) (op : Int) (p d : Nat) : Rs Ex := (enterP p d).bind fun _ p => (S (p + 1) (d + 1)).bind fun x p => .ok (.mk op 0 [] [x]) p
def unaryP (ws : List Wd) (S : Nat → Nat → Rs Ex) (E0 : Nat → Nat → Rs Ex) (p d : Nat) : Rs Ex :=
  if isS ws p [33] = true then aheadP S 19 p d else if isS ws p [45] = true then aheadP S 20 p d else atomP ws E0 p d
/-- The parts of the way of going: an expression of a level; what stands behind its first part; an expression with a sign ahead, or none. -/
structure PF where
  E : Nat → Nat → Nat → Rs Ex
  L : Nat → Ex → Nat → Nat → Rs Ex
  S : Nat → Nat → Rs Ex
def levN (L : Nat → Ex → Nat → Nat → Rs Ex) (S : Nat → Nat → Rs Ex) : Nat → Nat → Nat → Rs Ex
  | 0, p, d => S p d
  | j + 1, p, d => (levN L S j p d).bind fun x p => L (4 - j) x p d
def loopP (ws : List Wd) (f : PF) (lvl : Nat) (left : Ex) (p d : Nat) : Rs Ex := match opAt ws lvl p with
  | none => .ok left p
  | some op => (f.E (lvl + 1) (p + 1) d).bind fun r p => if lvl = 2 then .ok (mk2 op left r) p else f.L lvl (mk2 op left r) p d
def stepP (ws : List Wd) (f : PF) : PF where
  E := fun lvl p d => levN (loopP ws f) (unaryP ws f.S (f.E 0)) (5 - lvl) p d
  L := loopP ws f
  S := unaryP ws f.S (f.E 0)
def fuelP (ws : List Wd) : Nat → PF
  | 0 => ⟨fun _ _ _ => .out, fun _ _ _ _ => .out, fun _ _ => .out⟩
  | n + 1 => stepP ws (fuelP ws n)
theorem fuelP_E (ws : List Wd) (n lvl p d : Nat) (h : lvl < 5) : (fuelP ws (n + 1)).E lvl p d = ((fuelP ws (n + 1)).E (lvl + 1) p d).bind fun x p => (fuelP ws (n + 1)).L lvl x p d := by
  show levN (loopP ws (fuelP ws n)) (unaryP ws (fuelP ws n).S ((fuelP ws n).E 0)) (5 - lvl) p d = (levN (loopP ws (fuelP ws n)) (unaryP ws (fuelP ws n).S ((fuelP ws n).E 0)) (5 - (lvl + 1)) p d).bind _
  have e : 5 - lvl = (5 - (lvl + 1)) + 1 := by omega
  have e2 : 4 - (5 - (lvl + 1)) = lvl := by omega
  rw [e, levN, e2]
  rfl
/-- Which op a word has, and how many expressions and terms stand within. -/
def termsW (t : List Nat) : Int × Nat × Nat :=
  if t = [103, 105, 118, 101] then (3, 0, 1) else if t = [97, 110, 100] then (4, 0, 2) else if t = [111, 114] then (5, 0, 2) else if t = [115, 99, 97, 108, 101] then (6, 1, 1)
  else if t = [119, 104, 101, 110] then (7, 1, 1) else if t = [117, 110, 116, 105, 108] then (8, 1, 1) else if t = [97, 110, 121, 116, 105, 109, 101] then (9, 1, 1) else (0, 0, 0)
abbrev Part := Ex ⊕ Tm
def Rs.map {α β : Type} (r : Rs α) (f : α → β) : Rs β := r.bind fun a p => .ok (f a) p
def onesP (E0 : Nat → Nat → Rs Ex) (T : Nat → Nat → Rs Tm) (n m : Nat) : List (Nat → Nat → Rs Part) := List.replicate n (fun p d => (E0 p d).map .inl) ++ List.replicate m (fun p d => (T p d).map .inr)
def exprsOf (l : List Part) : List Ex := l.filterMap fun x => match x with | .inl e => some e | .inr _ => none
def termsOf2 (l : List Part) : List Tm := l.filterMap fun x => match x with | .inl _ => none | .inr t => some t
def termP (ws : List Wd) (E0 : Nat → Nat → Rs Ex) (T : Nat → Nat → Rs Tm) (p d : Nat) : Rs Tm :=
  if (wAt ws p).kind ≠ 3 then .bad p false
  else if (wAt ws p).text = zeroW then .ok (.mk 1 [] [] []) (p + 1)
  else if (wAt ws p).text = oneW then (withinP ws [fun p _ => nameP ws p] (p + 1) d).bind fun xs p => .ok (.mk 2 (xs.getD 0 []) [] []) p
  else if (termsW (wAt ws p).text).1 = 0 then .bad p false
  else (withinP ws (onesP E0 T (termsW (wAt ws p).text).2.1 (termsW (wAt ws p).text).2.2) (p + 1) d).bind fun xs q => .ok (.mk (termsW (wAt ws p).text).1 [] (exprsOf xs) (termsOf2 xs)) q
def fuelT (ws : List Wd) : Nat → Nat → Nat → Rs Tm
  | 0, _, _ => .out
  | n + 1, p, d => termP ws ((fuelP ws (n + 1)).E 0) (fuelT ws n) p d
/-- All words: the result, or where it can't go on. -/
def allP {α : Type} (ws : List Wd) (r : Rs α) : Rs α := match r with
  | .ok a p => if p = ws.length then .ok a p else .bad p false
  | r => r
end Go.Proofs.Ytijaldpmpjapiaa

namespace Go.Proofs.Ytijaldpmpjapiaa
open Go.RowKit

section
variable {P : Program} {ops : Array Oper} {Q : Exit → Act → World → Prop} {rest : List Oper} {o : Oper} {n d : Nat} {F F' : List (Nat × Value)} {w w' : World} {v : Value}
theorem Seq.callB {I : Inhabited (List Deferred)} {f : FuncId} {args : Array Value} {R : Ending → World → Prop} (he : Enters P (evF F) o w f args) (hg : o.guard = none) (hc : Calls P f args w R)
    (h : ∀ e w', R e w' → ∃ ch, e = .panicked ch ∧ Post Q (.panic ch) n F w') : Seq P ops Q (o :: rest) n F w := by
  intro a ha
  refine wpList_plain hg fun K hK => ?_
  unfold Oper.wp
  rw [he a.eval ha.ev, Oper.upon_enter]
  refine hc.mono fun e w' hR => ?_
  obtain ⟨ch, rfl, hp⟩ := h e w' hR
  exact hp _ ha
theorem Seq.panic_ {I : Inhabited (List Deferred)} {x : Operand} {u : Value} (ho : o.op = .panic x) (hx : evF F x = some v) (hg : o.guard = none) (hr : (Instr.panic v).run P w = .halt (.panic u) w) (h : Post Q (.panic [{ v := u, recovered := false }]) n F w) : Seq P ops Q (o :: rest) n F w := by
  intro a ha
  refine wpList_plain hg fun K hK => ?_
  unfold Oper.wp
  have : (execOp a.eval o).run P w = .halt (.panic u) w := by
    unfold execOp
    simp only [ho]
    rw [ha.ev _ _ hx]
    simp only [Sem.run_bind, hr]
    rfl
  rw [this, Oper.upon_panic]
  exact h _ ha
end
/-- What stays: all below a bound but one block. -/
structure Fz (h g : Nat) (w w' : World) : Prop where
  os : w'.os = w.os
  tape : w'.tape = w.tape
  output : w'.output = w.output
  size : w.heap.size ≤ w'.heap.size
  block : ∀ k, k < h → k ≠ g → w'.heap[k]? = w.heap[k]?
class PutAt (E : Prop) (h g g' : Nat) : Prop where
  ok : E → h ≤ g' ∨ g' = g
instance {h g g' : Nat} : PutAt (h ≤ g') h g g' := ⟨.inl⟩
instance {h g g' : Nat} : PutAt (g' = g) h g g' := ⟨.inr⟩
section
variable {h g : Nat} {w w' w'' : World}
theorem Fz.refl (h g : Nat) (w : World) : Fz h g w w := ⟨rfl, rfl, rfl, Nat.le_refl _, fun _ _ _ => rfl⟩
theorem Fz.trans (a : Fz h g w w') (b : Fz h g w' w'') : Fz h g w w'' := ⟨b.os.trans a.os, b.tape.trans a.tape, b.output.trans a.output, Nat.le_trans a.size b.size, fun k hk hne => (b.block k hk hne).trans (a.block k hk hne)⟩
theorem Fz.less {h' : Nat} (a : Fz h g w w') (hh : h' ≤ h) : Fz h' g w w' := ⟨a.os, a.tape, a.output, a.size, fun k hk => a.block k (by omega)⟩
theorem Fz.of (hb : Below h w w') : Fz h g w w' := ⟨hb.os, hb.tape, hb.output, hb.size, fun k hk _ => hb.block k hk⟩
/-- A step that leaves all there is. -/
theorem Fz.step (a : Fz h g w w') (hb : Below w'.heap.size w' w'') (hh : h ≤ w.heap.size := by exact Nat.le_refl _) : Fz h g w w'' := a.trans (Fz.of (hb.mono (Nat.le_trans hh a.size)))
/-- A step that leaves all there is but the one. -/
theorem Fz.call (a : Fz h g w w') (b : Fz w'.heap.size g w' w'') (hh : h ≤ w.heap.size := by exact Nat.le_refl _) : Fz h g w w'' := a.trans (b.less (Nat.le_trans hh a.size))
theorem Fz.put {g' : Nat} {T : TypeId} {cur cs : Array Value} {E : Prop} [at_ : PutAt E h g g'] (a : Fz h g w w') (_k : Blk w' g' T cur) (p : Put w' w'' g' T cs) (e : E) : Fz h g w w'' :=
  a.trans ⟨p.grown.os, p.grown.tape, p.grown.output, p.grown.size, fun k hk hne => by
    rcases Nat.lt_or_ge k w'.heap.size with hs | hs
    · exact p.grown.block k hs (fun e' => by injection e' with e'; rcases at_.ok e with h1 | h1 <;> omega)
    · have h1 : w'.heap[k]? = none := by simpa using hs
      have h2 : w''.heap[k]? = none := by have := p.size; simp; omega
      rw [h1, h2]⟩
theorem Fz.below {B : Nat} (a : Fz h g w w') (h1 : B ≤ h) (h2 : B ≤ g) : Below B w w' := ⟨a.os, a.tape, a.output, a.size, fun k hk => a.block k (by omega) (by omega)⟩
theorem Blk.fz {k : Nat} {T : TypeId} {cs : Array Value} (b : Blk w k T cs) (a : Fz w.heap.size g w w') (hne : k ≠ g := by omega) : Blk w' k T cs := by
  have h1 := a.block k b.lt hne
  unfold Blk at b ⊢
  rw [h1]
  exact b
end
/-- What a parser is made of: the bound below which its words lie, its block, its words, the text's length. -/
structure Ctx where
  B : Nat
  g : Nat
  c : Nat
  en : Nat
  A : Option Addr
  ws : List Wd
structure Ctx.Ok (K : Ctx) : Prop where
  le : K.B ≤ K.g
  len : K.ws.length ≤ 4000
  en : K.en ≤ 4000
  word : ∀ x ∈ K.ws, I64 x.kind ∧ I64 x.n ∧ (∀ c ∈ x.text, c < 256) ∧ x.text.length ≤ 4000 ∧ x.pos ≤ 4000
/-- The word at a place; at the end none. -/
def Ctx.at_ (K : Ctx) (p : Nat) : Wd := K.ws.getD p ⟨-1, [], 0, K.en⟩
def wdV (x : Wd) : Value := .agg #[.int .i64 x.kind, .string (strOf x.text), .int .i64 x.n, .int .i64 (x.pos : Int)]
theorem Ctx.at_kind (K : Ctx) (p : Nat) : (K.at_ p).kind = (wAt K.ws p).kind ∧ (K.at_ p).text = (wAt K.ws p).text ∧ (K.at_ p).n = (wAt K.ws p).n := by
  unfold Ctx.at_ wAt
  rw [List.getD_eq_getElem?_getD, List.getD_eq_getElem?_getD]
  cases K.ws[p]? <;> exact ⟨rfl, rfl, rfl⟩
theorem Ctx.Ok.at_ {K : Ctx} (h : K.Ok) (p : Nat) : I64 (K.at_ p).kind ∧ I64 (K.at_ p).n ∧ (∀ c ∈ (K.at_ p).text, c < 256) ∧ (K.at_ p).text.length ≤ 4000 ∧ (K.at_ p).pos ≤ 4000 := by
  unfold Ctx.at_
  rw [List.getD_eq_getElem?_getD]
  cases hp : K.ws[p]? with
  | none => exact ⟨show I64 (-1) by unfold I64; decide, show I64 0 by unfold I64; decide, by simp, by simp, h.en⟩
  | some x => exact h.word x (List.mem_of_getElem? hp)
/-- The parser, at a place. -/
structure PW (K : Ctx) (w : World) (p d : Nat) (ov : Bool) : Prop where
  blk : Blk w K.g 141 #[.slice K.A K.ws.length K.c, .int .i64 (p : Int), .int .i64 (d : Int), .bool ov, .int .i64 (K.en : Int)]
  rd : Reads w K.B 4 K.A K.ws.length (wdCells K.ws)
  p_le : p ≤ K.ws.length
  d_le : d ≤ 64 ∨ (ov = true ∧ d ≤ 65)
theorem Reads.fz {w w' : World} {K : Ctx} {g h B size n : Nat} {A : Option Addr} {xs : List Value} (r : Reads w B size A n xs) (a : Fz h g w w') (h1 : B ≤ h) (h2 : B ≤ g) : Reads w' B size A n xs := r.below (a.below h1 h2)
theorem PW.step {K : Ctx} {w w' : World} {p d : Nat} {ov : Bool} (h : PW K w p d ov) (hk : K.B ≤ K.g) (hb : Below w.heap.size w w') : PW K w' p d ov := ⟨h.blk.step hb, h.rd.below (hb.mono (by have := h.blk.lt; omega)), h.p_le, h.d_le⟩
def stopCh : List PanicEntry := [{ v := .iface 175 (.agg #[]), recovered := false }]
/-- What a parser's method answers; what stays lies below a bound. -/
def PRh {α : Type} (K : Ctx) (h : Nat) (w : World) (d : Nat) (r : Rs α) (okv : α → Value → World → Prop) (e : Ending) (w' : World) : Prop :=
  Fz h K.g w w' ∧ match r with
  | .out => False
  | .bad p ov => e = .panicked stopCh ∧ ∃ d, PW K w' p d ov
  | .ok a p => ∃ v, e = .returned v ∧ PW K w' p d false ∧ okv a v w'
abbrev PR {α : Type} (K : Ctx) (w : World) (d : Nat) (r : Rs α) (okv : α → Value → World → Prop) (e : Ending) (w' : World) : Prop := PRh K w.heap.size w d r okv e w'
theorem PRh.less {α : Type} {K : Ctx} {h h' : Nat} {w w' : World} {d : Nat} {r : Rs α} {okv : α → Value → World → Prop} {e : Ending} (hr : PRh K h w d r okv e w') (hh : h' ≤ h) : PRh K h' w d r okv e w' := ⟨hr.1.less hh, hr.2⟩
theorem Runs.mkIface {P : Program} {E : Operand → Option Value} {o : Oper} {w : World} {x : Operand} {T : TypeId} {v u : Value} (ho : o.op = .makeInterface T x) (hx : E x = some v) (hr : (Instr.makeInterface T v).run P w = .ok u w) : Runs P E o w u w := fun ρ h => by
  unfold execOp; simp only [ho]; rw [h _ _ hx]; simp only [Sem.run_bind, hr, Result.andThen_ok]; rfl
theorem run_build_stop (w : World) : (Instr.build 175 #[]).run Try.prog w = .ok (.agg #[]) w := by kernel_rfl
theorem fail_any (g : Nat) (w : World) : Calls Try.prog 109 #[.pointer (some ⟨g, 0, none⟩)] w fun e w' => e = .panicked stopCh ∧ Grow w w' := by
  have bel := Below.refl w.heap.size w
  refine Calls.start 4 Try.func109 rfl rfl rfl ?_
  refine Cd.region ?_
  refine Seq.val (Runs.build rfl rfl (run_build_stop _)) rfl rfl rfl ?_
  refine Seq.val (Runs.mkIface (u := .iface 175 (.agg #[])) rfl rfl (by kernel_rfl)) rfl rfl rfl ?_
  refine Seq.panic_ rfl rfl rfl (by rfl) ?_
  exact fun a ha => ⟨ha.defers, rfl, bel⟩
end Go.Proofs.Ytijaldpmpjapiaa

namespace Go.Proofs.Ytijaldpmpjapiaa
open Go.RowKit

theorem wdCells_row : ∀ (ws : List Wd) (p : Nat) (x : Wd), ws[p]? = some x → ∀ (q : Nat) (u : Value), ([.int .i64 x.kind, .string (strOf x.text), .int .i64 x.n, .int .i64 (x.pos : Int)] : List Value)[q]? = some u → (wdCells ws)[p * 4 + q]? = some u
  | [], p, x, h, _, _, _ => by simp at h
  | y :: r, 0, x, h, q, u, hu => by
    simp at h
    subst h
    have hq := (List.getElem?_eq_some_iff.1 hu).1
    rw [Nat.zero_mul, Nat.zero_add]
    show (([.int .i64 y.kind, .string (strOf y.text), .int .i64 y.n, .int .i64 (y.pos : Int)] : List Value) ++ wdCells r)[q]? = some u
    rw [List.getElem?_append_left hq]
    exact hu
  | y :: r, p + 1, x, h, q, u, hu => by
    have ih := wdCells_row r p x (by simpa using h) q u hu
    show (([.int .i64 y.kind, .string (strOf y.text), .int .i64 y.n, .int .i64 (y.pos : Int)] : List Value) ++ wdCells r)[(p + 1) * 4 + q]? = some u
    rw [List.getElem?_append_right (by simp; omega), ← ih]
    congr 1
    simp
    omega
theorem run_build_word (a d : Int) (w : World) : (Instr.build 50 #[(0, .int .i64 a), (3, .int .i64 d)]).run Try.prog w = .ok (.agg #[.int .i64 a, .string (strOf []), .int .i64 0, .int .i64 d]) w := by
  have hu := Try.underlying50
  go_simp
  rfl
theorem word_any (K : Ctx) (hK : K.Ok) (p d : Nat) (ov : Bool) (w : World) (h : PW K w p d ov) : Calls Try.prog 108 #[.pointer (some ⟨K.g, 0, none⟩)] w fun e w' => e = .returned (wdV (K.at_ p)) ∧ Grow w w' := by
  have bel := Below.refl w.heap.size w
  have k99 := h.blk
  have hrd := h.rd
  have hlt := h.blk.lt
  have hBg := hK.le
  refine Calls.start 28 Try.func108 rfl rfl rfl ?_
  refine Cd.seq ?_
  refine Cd.region ?_
  refine Seq.alloc rfl (run_zero zero_lex_Word) rfl rfl rfl ?_
  intro g2 w1 n2
  have e2 := Nat.le_trans bel.size n2.ge
  have l2 := Nat.lt_of_lt_of_le k99.lt n2.ge
  replace bel := bel.step n2.below
  replace k99 := k99.step n2.below
  have k2 := n2.blk
  refine Seq.nil ?_
  refine Post.weak (F' := [(0, _), (2, _)]) ⟨rfl, rfl, trivial⟩ ?_
  refine Post.then_ ?_
  refine Cd.seq ?_
  refine Cd.seq ?_
  refine Cd.draw 9 (by kernel_rfl) [] (.inl rfl) rfl Grow Grow.refl (fun _ _ _ => Grow.trans) ?_
  intro w2 hw2 zw2
  replace bel := bel.step hw2
  replace k99 := k99.step hw2
  replace k2 := k2.step hw2
  have zbel := bel.size
  have zlt := k2.lt
  refine Dr.val Grow.refl rfl (fun w hG => Runs.move rfl rfl) rfl ?_
  refine Dr.val Grow.refl rfl (fun w hG => Runs.nilCheck rfl rfl) rfl ?_
  refine Dr.val Grow.refl rfl (fun w hG => Runs.fieldB 1 rfl rfl Try.underlying141 rfl (by kernel_rfl)) rfl ?_
  refine Dr.val Grow.refl rfl (fun w hG => Runs.loadB rfl rfl Try.underlying3 rfl (k99.step hG) rfl) rfl ?_
  refine Dr.val Grow.refl rfl (fun w hG => Runs.move rfl rfl) rfl ?_
  refine Dr.val Grow.refl rfl (fun w hG => Runs.nilCheck rfl rfl) rfl ?_
  refine Dr.val Grow.refl rfl (fun w hG => Runs.fieldB 0 rfl rfl Try.underlying141 rfl (by kernel_rfl)) rfl ?_
  refine Dr.val Grow.refl rfl (fun w hG => Runs.loadB rfl rfl Try.underlying40 rfl (k99.step hG) rfl) rfl ?_
  refine Dr.val Grow.refl rfl (fun w hG => Runs.len rfl rfl Try.underlying40) rfl ?_
  refine Dr.nil ?_
  refine FinX.done (F' := [(0, _), (2, _), (6, _), (11, _)]) rfl ⟨rfl, rfl, rfl, rfl, trivial⟩ ?_
  intro w3 hw3 fw3
  replace bel := bel.step hw3
  replace k99 := k99.step hw3
  replace k2 := k2.step hw3
  refine Seq.val (Runs.lss rfl rfl rfl) rfl rfl rfl ?_
  refine Seq.nil ?_
  refine Post.weak (F' := [(0, _), (2, _), (12, _)]) ⟨rfl, rfl, rfl, trivial⟩ ?_
  refine Post.then_ ?_
  refine Cd.condD rfl (fun hc => ?_) (fun hc => ?_)
  · obtain ⟨ad, hA, hadb, hcell⟩ := hrd.2 (by omega)
    obtain ⟨x, hx⟩ : ∃ x, K.ws[p]? = some x := ⟨_, List.getElem?_eq_getElem (by omega)⟩
    have hat : K.at_ p = x := by unfold Ctx.at_; rw [List.getD_eq_getElem?_getD, hx]; rfl
    have hce : ∀ W, Below w.heap.size w W → ∀ (q : Nat) (u : Value), ([.int .i64 x.kind, .string (strOf x.text), .int .i64 x.n, .int .i64 (x.pos : Int)] : List Value)[q]? = some u → W.cell? ((ad.add (p * 4)).add q) = some u := fun W hb q u hu => by
      rw [(hb.mono (show K.B ≤ w.heap.size by omega)).cell (by rw [block_of_add, block_of_add]; exact hadb), add_of_add]
      exact hcell _ _ (wdCells_row K.ws p x hx q u hu)
    rw [hA] at k99
    refine Cd.seq ?_
    refine Cd.draw 8 (by kernel_rfl) [] (.inl rfl) rfl Grow Grow.refl (fun _ _ _ => Grow.trans) ?_
    intro w4 hw4 zw4
    replace bel := bel.step hw4
    replace k99 := k99.step hw4
    replace k2 := k2.step hw4
    have zbel := bel.size
    have zlt := k2.lt
    refine Dr.val Grow.refl rfl (fun w hG => Runs.move rfl rfl) rfl ?_
    refine Dr.val Grow.refl rfl (fun w hG => Runs.nilCheck rfl rfl) rfl ?_
    refine Dr.val Grow.refl rfl (fun w hG => Runs.fieldB 0 rfl rfl Try.underlying141 rfl (by kernel_rfl)) rfl ?_
    refine Dr.val Grow.refl rfl (fun w hG => Runs.loadB rfl rfl Try.underlying40 rfl (k99.step hG) rfl) rfl ?_
    refine Dr.val Grow.refl rfl (fun w hG => Runs.move rfl rfl) rfl ?_
    refine Dr.val Grow.refl rfl (fun w hG => Runs.nilCheck rfl rfl) rfl ?_
    refine Dr.val Grow.refl rfl (fun w hG => Runs.fieldB 1 rfl rfl Try.underlying141 rfl (by kernel_rfl)) rfl ?_
    refine Dr.val Grow.refl rfl (fun w hG => Runs.loadB rfl rfl Try.underlying3 rfl (k99.step hG) rfl) rfl ?_
    refine Dr.nil ?_
    refine FinX.done (F' := [(0, _), (2, _), (12, _), (16, _), (20, _)]) rfl ⟨rfl, rfl, rfl, rfl, rfl, trivial⟩ ?_
    intro w5 hw5 fw5
    replace bel := bel.step hw5
    replace k99 := k99.step hw5
    replace k2 := k2.step hw5
    refine Seq.val (Runs.indexN rfl rfl rfl Try.underlying40 (s := 4) (by kernel_rfl) (j := p) rfl (by omega)) rfl rfl rfl ?_
    refine Seq.val (Runs.loadF (ps := [.int .i64 x.kind, .string (strOf x.text), .int .i64 x.n, .int .i64 (x.pos : Int)]) rfl rfl Try.underlying50 rfl (m := 4) (by kernel_rfl) rfl (hce _ bel)) rfl rfl rfl ?_
    refine Seq.storeN rfl rfl rfl rfl (m := 4) (by kernel_rfl) rfl (by repeat' first | exact trivial | apply And.intro | rfl | assumption) k2 (by simp [Value.cells]) rfl rfl ?_
    intro w6 pw6
    replace bel := bel.put k2 pw6 e2
    replace k99 := k99.put pw6 (by omega)
    replace k2 := pw6.blk
    refine Seq.nil ?_
    refine Post.weak (F' := [(0, _), (2, _), (12, _)]) ⟨rfl, rfl, rfl, trivial⟩ ?_
    refine Post.then_ ?_
    refine Cd.ret ?_
    refine Post.then_ret ?_
    refine Post.endC rfl rfl k2 Try.underlying50 rfl (m := 4) (by kernel_rfl) rfl (.inl rfl) ?_
    rw [hat]
    exact ⟨rfl, bel⟩
  · have hat : K.at_ p = ⟨-1, [], 0, K.en⟩ := by
      unfold Ctx.at_
      rw [List.getD_eq_getElem?_getD, List.getElem?_eq_none (by omega)]
      rfl
    refine Cd.skip ?_
    refine Post.then_ ?_
    refine Cd.seq ?_
    refine Cd.region ?_
    refine Seq.val (Runs.move rfl rfl) rfl rfl rfl ?_
    refine Seq.val (Runs.nilCheck rfl rfl) rfl rfl rfl ?_
    refine Seq.val (Runs.fieldB 4 rfl rfl Try.underlying141 rfl (by kernel_rfl)) rfl rfl rfl ?_
    refine Seq.val (Runs.loadB rfl rfl Try.underlying3 rfl k99 rfl) rfl rfl rfl ?_
    refine Seq.val (Runs.build rfl rfl (run_build_word (-1) _ _)) rfl rfl rfl ?_
    refine Seq.storeN rfl rfl rfl rfl (m := 4) (by kernel_rfl) rfl (by repeat' first | exact trivial | apply And.intro | rfl | assumption) k2 (by simp [Value.cells]) rfl rfl ?_
    intro w4 pw4
    replace bel := bel.put k2 pw4 e2
    replace k99 := k99.put pw4 (by omega)
    replace k2 := pw4.blk
    refine Seq.nil ?_
    refine Post.weak (F' := [(0, _), (2, _), (12, _)]) ⟨rfl, rfl, rfl, trivial⟩ ?_
    refine Post.then_ ?_
    refine Cd.ret ?_
    refine Post.endC rfl rfl k2 Try.underlying50 rfl (m := 4) (by kernel_rfl) rfl (.inl rfl) ?_
    rw [hat]
    exact ⟨rfl, bel⟩
theorem is_any (K : Ctx) (hK : K.Ok) (p d : Nat) (ov : Bool) (k : Int) (s : List Nat) (w : World) (h : PW K w p d ov) (hs : ∀ x ∈ s, x < 256) : Calls Try.prog 155 #[.pointer (some ⟨K.g, 0, none⟩), .int .i64 k, .string (strOf s)] w fun e w' => e = .returned (.bool (decide ((wAt K.ws p).kind = k) && decide ((wAt K.ws p).text = s))) ∧ Grow w w' := by
  have bel := Below.refl w.heap.size w
  obtain ⟨a1, a2, a3, a4, a5⟩ := hK.at_ p
  obtain ⟨b1, b2, b3⟩ := K.at_kind p
  rw [← b1, ← b2]
  have hw := fun W (hb : Below w.heap.size w W) => word_any K hK p d ov W (h.step hK.le hb)
  unfold wdV at hw
  refine Calls.start 20 Try.func155 rfl rfl rfl ?_
  refine Cd.seq ?_
  refine Cd.region ?_
  refine Seq.val (Runs.assign rfl rfl) rfl rfl rfl ?_
  refine Seq.nil ?_
  refine Post.weak (F' := [(0, _), (1, _), (2, _), (6, _)]) ⟨rfl, rfl, rfl, rfl, trivial⟩ ?_
  refine Post.then_ ?_
  refine Cd.seq ?_
  refine Cd.region ?_
  refine Seq.val (Runs.move rfl rfl) rfl rfl rfl ?_
  refine Seq.call (Enters.func rfl rfl rfl (run_enter Try.func108 (by kernel_rfl) rfl)) rfl rfl rfl (hw _ bel) ?_
  rintro e w5 ⟨rfl, hb5⟩
  refine ⟨_, rfl, ?_⟩
  replace bel := bel.step hb5
  refine Seq.alloc rfl (run_zero zero_lex_Word) rfl rfl rfl ?_
  intro g7 w1 n7
  have e7 := Nat.le_trans bel.size n7.ge
  replace bel := bel.step n7.below
  have k7 := n7.blk
  refine Seq.storeN rfl rfl rfl rfl (m := 4) (by kernel_rfl) rfl (by repeat' first | exact trivial | apply And.intro | rfl | assumption) k7 (by simp [Value.cells]) rfl rfl ?_
  intro w2 pw2
  replace bel := bel.put k7 pw2 e7
  replace k7 := pw2.blk
  refine Seq.nil ?_
  refine Post.weak (F' := [(0, _), (1, _), (2, _), (6, _), (7, _)]) ⟨rfl, rfl, rfl, rfl, rfl, trivial⟩ ?_
  refine Post.then_ ?_
  refine Cd.seq ?_
  refine Cd.region ?_
  refine Seq.val (Runs.fieldB 0 rfl rfl Try.underlying50 rfl (by kernel_rfl)) rfl rfl rfl ?_
  refine Seq.val (Runs.loadB rfl rfl Try.underlying3 rfl k7 rfl) rfl rfl rfl ?_
  refine Seq.val (Runs.move rfl rfl) rfl rfl rfl ?_
  refine Seq.val (Runs.eqlI rfl rfl rfl) rfl rfl rfl ?_
  refine Seq.val (Runs.move rfl rfl) rfl rfl rfl ?_
  refine SeqC.start ?_
  refine SeqC.open rfl rfl rfl rfl rfl rfl rfl (fun hcx => Runs.fieldB 1 rfl rfl Try.underlying50 rfl (by kernel_rfl)) ?_
  refine SeqC.next rfl rfl rfl rfl rfl rfl rfl (fun hcx => Runs.loadB rfl rfl Try.underlying9 rfl k7 rfl) ?_
  refine SeqC.next rfl rfl rfl rfl rfl rfl rfl (fun hcx => Runs.move rfl rfl) ?_
  refine SeqC.next rfl rfl rfl rfl rfl rfl rfl (fun hcx => Runs.eqlL rfl rfl rfl a3 hs) ?_
  refine SeqC.and rfl rfl rfl rfl rfl rfl rfl ?_
  refine Seq.val (Runs.assign rfl rfl) rfl rfl rfl ?_
  refine Seq.nil ?_
  refine Post.weak (F' := [(0, _), (1, _), (2, _), (6, _), (7, _)]) ⟨rfl, rfl, rfl, rfl, rfl, trivial⟩ ?_
  refine Post.then_ ?_
  refine Cd.ret ?_
  refine Post.end1 rfl rfl (.inl rfl) ?_
  exact ⟨rfl, bel⟩
/-- The word behind. -/
theorem PW.next {K : Ctx} {w w' : World} {p d : Nat} {ov : Bool} (h : PW K w p d ov) (hK : K.B ≤ K.g) (hp : p + 1 ≤ K.ws.length) (bel : Fz w.heap.size K.g w w') (hb : Blk w' K.g 141 #[.slice K.A K.ws.length K.c, .int .i64 ((p : Int) + 1), .int .i64 (d : Int), .bool ov, .int .i64 (K.en : Int)]) : PW K w' (p + 1) d ov :=
  ⟨by rw [Int.natCast_add]; exact hb, h.rd.below (bel.below (by have := h.blk.lt; omega) hK), hp, h.d_le⟩
theorem signQ_any (K : Ctx) (hK : K.Ok) (p d : Nat) (s : List Nat) (w : World) (h : PW K w p d false) (hs : ∀ x ∈ s, x < 256) : Calls Try.prog 148 #[.pointer (some ⟨K.g, 0, none⟩), .string (strOf s)] w (PR K w d (signQ K.ws s p) fun _ _ _ => True) := by
  have bel := Fz.refl w.heap.size K.g w
  have k99 := h.blk
  have e99 : K.g = K.g := rfl
  have hlt := h.blk.lt
  have hlen := hK.len
  have hle := h.p_le
  have hw := is_any K hK p d false 0 s w h hs
  have hq : signQ K.ws s p = if (decide ((wAt K.ws p).kind = 0) && decide ((wAt K.ws p).text = s)) = true then .ok () (p + 1) else .bad p false := rfl
  refine Calls.start 17 Try.func148 rfl rfl rfl ?_
  refine Cd.seq ?_
  refine Cd.seq ?_
  refine Cd.region ?_
  refine Seq.val (Runs.move rfl rfl) rfl rfl rfl ?_
  refine Seq.val (Runs.move rfl rfl) rfl rfl rfl ?_
  refine Seq.call (Enters.func rfl rfl rfl (run_enter Try.func155 (by kernel_rfl) rfl)) rfl rfl rfl (hw) ?_
  rintro e w5 ⟨rfl, hb5⟩
  refine ⟨_, rfl, ?_⟩
  replace bel := bel.step hb5
  replace k99 := k99.step hb5
  refine Seq.val (Runs.not rfl rfl) rfl rfl rfl ?_
  refine Seq.nil ?_
  refine Post.weak (F' := [(0, _), (1, _), (7, _)]) ⟨rfl, rfl, rfl, trivial⟩ ?_
  refine Post.then_ ?_
  refine Cd.cond rfl (fun hc => ?_) (fun hc => ?_)
  · have hc : ¬ (decide ((wAt K.ws p).kind = 0) && decide ((wAt K.ws p).text = s)) = true := by rw [Bool.not_eq_true]; simpa only [Bool.not_eq_true'] using hc
    rw [if_neg hc] at hq
    refine Cd.region ?_
    refine Seq.val (Runs.move rfl rfl) rfl rfl rfl ?_
    refine Seq.callB (Enters.func rfl rfl rfl (run_enter Try.func109 (by kernel_rfl) rfl)) rfl (fail_any K.g _) ?_
    rintro e w6 ⟨rfl, hb6⟩
    refine ⟨_, rfl, fun a ha => ⟨ha.defers, ?_⟩⟩
    rw [hq]
    exact ⟨bel.step hb6, rfl, d, ⟨k99.step hb6, h.rd.below ((bel.step hb6).below (by have := hK.le; omega) hK.le), h.p_le, h.d_le⟩⟩
  · have hc : (decide ((wAt K.ws p).kind = 0) && decide ((wAt K.ws p).text = s)) = true := by simpa only [Bool.not_eq_false'] using hc
    rw [if_pos hc] at hq
    have hp : p + 1 ≤ K.ws.length := by
      rcases Nat.lt_or_ge p K.ws.length with hp | hp
      · exact hp
      · simp only [Bool.and_eq_true, decide_eq_true_eq] at hc
        have h1 : wAt K.ws p = ⟨-1, [], 0, 0⟩ := by unfold wAt; rw [List.getD_eq_getElem?_getD, List.getElem?_eq_none hp]; rfl
        rw [h1] at hc
        exact absurd hc.1 (by decide)
    refine Cd.skip ?_
    refine Post.then_ ?_
    refine Cd.region ?_
    refine Seq.val (Runs.move rfl rfl) rfl rfl rfl ?_
    refine Seq.val (Runs.nilCheck rfl rfl) rfl rfl rfl ?_
    refine Seq.val (Runs.fieldB 1 rfl rfl Try.underlying141 rfl (by kernel_rfl)) rfl rfl rfl ?_
    refine Seq.val (Runs.loadB rfl rfl Try.underlying3 rfl k99 rfl) rfl rfl rfl ?_
    refine Seq.val (Runs.addI rfl rfl rfl (by omega) (by omega)) rfl rfl rfl ?_
    refine Seq.val (Runs.nilCheck rfl rfl) rfl rfl rfl ?_
    refine Seq.val (Runs.fieldB 1 rfl rfl Try.underlying141 rfl (by kernel_rfl)) rfl rfl rfl ?_
    refine Seq.store1 rfl rfl rfl (by kernel_rfl) rfl rfl k99 rfl rfl rfl ?_
    intro w1 pw1
    replace bel := bel.put k99 pw1 e99
    replace k99 := pw1.blk
    refine Seq.nil ?_
    refine Post.weak (F' := [(0, _), (1, _), (7, _)]) ⟨rfl, rfl, rfl, trivial⟩ ?_
    refine Post.end0 rfl (.inr rfl) ?_
    rw [hq]
    exact ⟨bel, _, rfl, h.next hK.le hp bel k99, trivial⟩
theorem enter_any (K : Ctx) (hK : K.Ok) (p d : Nat) (w : World) (h : PW K w p d false) : Calls Try.prog 149 #[.pointer (some ⟨K.g, 0, none⟩)] w (PR K w (d + 1) (enterP p d) fun _ _ _ => True) := by
  have bel := Fz.refl w.heap.size K.g w
  have k99 := h.blk
  have e99 : K.g = K.g := rfl
  have hlt := h.blk.lt
  have hde : d ≤ 64 := by rcases h.d_le with h | ⟨h, -⟩; exact h; cases h
  have hle := hK.le
  have hq : enterP p d = if 64 < d + 1 then .bad p true else .ok () p := rfl
  refine Calls.start 19 Try.func149 rfl rfl rfl ?_
  refine Cd.seq ?_
  refine Cd.region ?_
  refine Seq.val (Runs.move rfl rfl) rfl rfl rfl ?_
  refine Seq.val (Runs.nilCheck rfl rfl) rfl rfl rfl ?_
  refine Seq.val (Runs.fieldB 2 rfl rfl Try.underlying141 rfl (by kernel_rfl)) rfl rfl rfl ?_
  refine Seq.val (Runs.loadB rfl rfl Try.underlying3 rfl k99 rfl) rfl rfl rfl ?_
  refine Seq.val (Runs.addI rfl rfl rfl (by omega) (by omega)) rfl rfl rfl ?_
  refine Seq.val (Runs.nilCheck rfl rfl) rfl rfl rfl ?_
  refine Seq.val (Runs.fieldB 2 rfl rfl Try.underlying141 rfl (by kernel_rfl)) rfl rfl rfl ?_
  refine Seq.store1 rfl rfl rfl (by kernel_rfl) rfl rfl k99 rfl rfl rfl ?_
  intro w1 pw1
  replace bel := bel.put k99 pw1 e99
  replace k99 := pw1.blk
  refine Seq.nil ?_
  refine Post.weak (F' := [(0, _)]) ⟨rfl, trivial⟩ ?_
  refine Post.then_ ?_
  refine Cd.seq ?_
  refine Cd.region ?_
  refine Seq.val (Runs.move rfl rfl) rfl rfl rfl ?_
  refine Seq.val (Runs.nilCheck rfl rfl) rfl rfl rfl ?_
  refine Seq.val (Runs.fieldB 2 rfl rfl Try.underlying141 rfl (by kernel_rfl)) rfl rfl rfl ?_
  refine Seq.val (Runs.loadB rfl rfl Try.underlying3 rfl k99 rfl) rfl rfl rfl ?_
  refine Seq.val (Runs.gtr rfl rfl rfl) rfl rfl rfl ?_
  refine Seq.nil ?_
  refine Post.weak (F' := [(0, _), (13, _)]) ⟨rfl, rfl, trivial⟩ ?_
  refine Post.then_ ?_
  refine Cd.condD rfl (fun hc => ?_) (fun hc => ?_)
  · rw [if_pos (by omega)] at hq
    refine Cd.seq ?_
    refine Cd.region ?_
    refine Seq.val (Runs.move rfl rfl) rfl rfl rfl ?_
    refine Seq.val (Runs.nilCheck rfl rfl) rfl rfl rfl ?_
    refine Seq.val (Runs.fieldB 3 rfl rfl Try.underlying141 rfl (by kernel_rfl)) rfl rfl rfl ?_
    refine Seq.store1 rfl rfl rfl (by kernel_rfl) rfl rfl k99 rfl rfl rfl ?_
    intro w2 pw2
    replace bel := bel.put k99 pw2 e99
    replace k99 := pw2.blk
    refine Seq.nil ?_
    refine Post.weak (F' := [(0, _), (13, _)]) ⟨rfl, rfl, trivial⟩ ?_
    refine Post.then_ ?_
    refine Cd.region ?_
    refine Seq.val (Runs.move rfl rfl) rfl rfl rfl ?_
    refine Seq.callB (Enters.func rfl rfl rfl (run_enter Try.func109 (by kernel_rfl) rfl)) rfl (fail_any K.g _) ?_
    rintro e w6 ⟨rfl, hb6⟩
    refine ⟨_, rfl, fun a ha => ⟨ha.defers, ?_⟩⟩
    rw [hq]
    exact ⟨bel.step hb6, rfl, d + 1, ⟨by have := k99.step hb6; rw [Int.natCast_add]; exact this, h.rd.below ((bel.step hb6).below (by omega) hle), h.p_le, .inr ⟨rfl, by omega⟩⟩⟩
  · rw [if_neg (by omega)] at hq
    refine Cd.skip ?_
    refine Post.end0 rfl (.inr rfl) ?_
    rw [hq]
    exact ⟨bel, _, rfl, ⟨by rw [Int.natCast_add]; exact k99, h.rd.below (bel.below (by omega) hle), h.p_le, .inl (by omega)⟩, trivial⟩
end Go.Proofs.Ytijaldpmpjapiaa

namespace Go.Proofs.Ytijaldpmpjapiaa
open Go.RowKit

/-- The place of the first that is so; or -1. -/
def idxZ (L : List (List Nat)) (s : List Nat) : Int := if s ∈ L then (L.idxOf s : Int) else -1
theorem indexS_any (L : List (List Nat)) (s : List Nat) (A : Option Addr) (c B : Nat) (w : World) (hr : Reads w B 1 A L.length (strV L)) (hB : B ≤ w.heap.size) (hl : L.length ≤ 1000) (hL : ∀ t ∈ L, ∀ x ∈ t, x < 256) (hs : ∀ x ∈ s, x < 256) :
    Calls Try.prog 125 #[.slice A L.length c, .string (strOf s)] w fun e w' => e = .returned (.int .i64 (idxZ L s)) ∧ Grow w w' := by
  have bel := Below.refl w.heap.size w
  refine Calls.start 19 Try.func125 rfl rfl rfl ?_
  refine Cd.seq ?_
  refine Cd.region ?_
  refine Seq.val (Runs.assign rfl rfl) rfl rfl rfl ?_
  refine Seq.nil ?_
  refine Post.weak (F' := [(0, _), (1, _), (4, _)]) ⟨rfl, rfl, rfl, trivial⟩ ?_
  refine Post.then_ ?_
  refine Cd.seq ?_
  refine Cd.seq ?_
  refine Cd.region ?_
  refine Seq.val (Runs.move rfl rfl) rfl rfl rfl ?_
  refine Seq.val (Runs.len rfl rfl Try.underlying85) rfl rfl rfl ?_
  refine Seq.val (Runs.move rfl rfl) rfl rfl rfl ?_
  refine Seq.nil ?_
  refine Post.weak (F' := [(0, _), (1, _), (4, _), (7, _), (8, _)]) ⟨rfl, rfl, rfl, rfl, rfl, trivial⟩ ?_
  refine Post.then_ ?_
  refine Cd.block ?_
  refine Cd.loop (σ := Nat) (fun k => [(0, .slice A L.length c), (1, .string (strOf s)), (7, .int .i64 (L.length : Int)), (8, .int .i64 (k : Int))]) (fun k wr => k ≤ L.length ∧ Below w.heap.size w wr ∧ ∀ t ∈ L.take k, t ≠ s) (fun k => L.length - k) 0 ⟨Nat.zero_le _, bel, by simp⟩ ⟨rfl, rfl, rfl, rfl, trivial⟩ ?_
  clear bel
  rintro k wr ⟨hk, bel, hno⟩
  refine Cd.seq ?_
  refine Cd.region ?_
  refine Seq.val (Runs.lss rfl rfl rfl) rfl rfl rfl ?_
  refine Seq.nil ?_
  refine Post.weak (F' := [(0, _), (1, _), (7, _), (8, _), (9, _)]) ⟨rfl, rfl, rfl, rfl, rfl, trivial⟩ ?_
  refine Post.then_ ?_
  refine Cd.seq ?_
  refine Cd.condD rfl (fun hc => ?_) (fun hc => ?_)
  · obtain ⟨t, ht⟩ : ∃ t, L[k]? = some t := ⟨_, List.getElem?_eq_getElem (by omega)⟩
    have hr := hr.below (bel.mono hB)
    obtain ⟨ad, rfl, -, hc⟩ := hr.2 (by omega)
    have hc := hc k (.string (strOf t)) (by simp [strV, ht])
    have htk : L.take (k + 1) = L.take k ++ [t] := by rw [List.take_add_one, ht]; rfl
    refine Cd.skip ?_
    refine Post.then_ ?_
    refine Cd.seq ?_
    refine Cd.block ?_
    refine Cd.seq ?_
    refine Cd.region ?_
    refine Seq.val (Runs.move rfl rfl) rfl rfl rfl ?_
    refine Seq.val (Runs.assign rfl rfl) rfl rfl rfl ?_
    refine Seq.nil ?_
    refine Post.weak (F' := [(0, _), (1, _), (5, _), (7, _), (8, _), (9, _)]) ⟨rfl, rfl, rfl, rfl, rfl, rfl, trivial⟩ ?_
    refine Post.then_ ?_
    refine Cd.seq ?_
    refine Cd.region ?_
    refine Seq.val (Runs.move rfl rfl) rfl rfl rfl ?_
    refine Seq.val (Runs.move rfl rfl) rfl rfl rfl ?_
    refine Seq.val (Runs.move rfl rfl) rfl rfl rfl ?_
    refine Seq.val (Runs.index1 rfl rfl rfl Try.underlying85 (by kernel_rfl) (j := k) rfl (by omega)) rfl rfl rfl ?_
    refine Seq.val (Runs.load1 rfl rfl Try.underlying9 rfl hc) rfl rfl rfl ?_
    refine Seq.val (Runs.eqlL rfl rfl rfl hs (hL t (List.mem_of_getElem? ht))) rfl rfl rfl ?_
    refine Seq.nil ?_
    refine Post.weak (F' := [(0, _), (1, _), (5, _), (7, _), (8, _), (9, _), (16, _)]) ⟨rfl, rfl, rfl, rfl, rfl, rfl, rfl, trivial⟩ ?_
    refine Post.then_ ?_
    refine Cd.condD rfl (fun hc => ?_) (fun hc => ?_)
    · skip
      refine Cd.seq ?_
      refine Cd.region ?_
      refine Seq.val (Runs.move rfl rfl) rfl rfl rfl ?_
      refine Seq.val (Runs.assign rfl rfl) rfl rfl rfl ?_
      refine Seq.nil ?_
      refine Post.weak (F' := [(0, _), (1, _), (4, _), (5, _), (7, _), (8, _), (9, _), (16, _)]) ⟨rfl, rfl, rfl, rfl, rfl, rfl, rfl, rfl, trivial⟩ ?_
      refine Post.then_ ?_
      refine Cd.ret ?_
      refine Post.block_ret ?_
      refine Post.then_ret ?_
      refine Post.round_ret ?_
      refine Post.block_ret ?_
      refine Post.then_ret ?_
      refine Post.end1 rfl rfl (.inl rfl) ?_
      have hi : L.idxOf s = k := by
        have hlt := (List.getElem?_eq_some_iff.1 ht).1
        have h1 : L = L.take k ++ t :: L.drop (k + 1) := by
          rw [List.getElem?_eq_getElem hlt] at ht
          injection ht with ht
          rw [← ht, List.getElem_cons_drop, List.take_append_drop]
        rw [h1, List.idxOf_append, if_neg (fun hm => hno s hm rfl), hc, List.idxOf_cons_self, List.length_take]
        omega
      unfold idxZ
      rw [if_pos (by rw [hc]; exact List.mem_of_getElem? ht), hi]
      exact ⟨rfl, bel⟩
    · skip
      refine Cd.skip ?_
      refine Post.block_normal ?_
      refine Post.then_ ?_
      refine Cd.region ?_
      refine Seq.val (Runs.addI rfl rfl rfl (by omega) (by omega)) rfl rfl rfl ?_
      refine Seq.val (Runs.move rfl rfl) rfl rfl rfl ?_
      refine Seq.nil ?_
      refine Post.weak (F' := [(0, _), (1, _), (5, _), (7, _), (8, _), (9, _), (16, _)]) ⟨rfl, rfl, rfl, rfl, rfl, rfl, rfl, trivial⟩ ?_
      refine Post.round (k + 1) ⟨rfl, rfl, rfl, rfl, trivial⟩ ⟨by omega, bel, fun u hu => ?_⟩ (by omega)
      rw [htk] at hu
      rcases List.mem_append.1 hu with hu | hu
      · exact hno u hu
      · obtain rfl := List.mem_singleton.1 hu
        exact fun e => hc e.symm
  · obtain rfl : k = L.length := by omega
    rw [List.take_of_length_le (Nat.le_refl _)] at hno
    refine Cd.exit ?_
    refine Post.then_exit ?_
    refine Post.round_exit ?_
    refine Post.block_exit ?_
    refine Post.then_ ?_
    refine Cd.seq ?_
    refine Cd.region ?_
    refine Seq.val (Runs.assign rfl rfl) rfl rfl rfl ?_
    refine Seq.nil ?_
    refine Post.weak (F' := [(0, _), (1, _), (4, _), (7, _), (8, _), (9, _)]) ⟨rfl, rfl, rfl, rfl, rfl, rfl, trivial⟩ ?_
    refine Post.then_ ?_
    refine Cd.ret ?_
    refine Post.end1 rfl rfl (.inl rfl) ?_
    unfold idxZ
    rw [if_neg fun hm => hno s hm rfl]
    exact ⟨rfl, bel⟩
/-- A level of signs, in memory. -/
structure LvB (w : World) (g lvl ga gb c d : Nat) (cs : Array Value) : Prop where
  lev : Blk w g 158 cs
  s0 : cs[lvl * 3]? = some (.slice (some ⟨ga, 0, none⟩) (signsAt lvl).length c)
  s1 : cs[lvl * 3 + 1]? = some (.slice (some ⟨gb, 0, none⟩) (opsAt lvl).length d)
  s2 : cs[lvl * 3 + 2]? = some (.bool (decide (lvl = 2)))
  sg : Blk w ga 9 (strV (signsAt lvl)).toArray
  op : Blk w gb 3 (DI (opsAt lvl)).toArray
theorem zero_parse_level : zeroIs Try.prog 158 = some (some (.agg #[.slice none 0 0, .slice none 0 0, .bool false])) := by kernel_rfl
theorem run_build_level (a b : Addr) (n c m d : Nat) (x : Bool) (w : World) : (Instr.build 158 #[(0, .slice (some a) n c), (1, .slice (some b) m d), (2, .bool x)]).run Try.prog w = .ok (.agg #[.slice (some a) n c, .slice (some b) m d, .bool x]) w := by
  have hu := Try.underlying158
  go_simp
theorem levels_any (w : World) : Calls Try.prog 123 #[] w fun e w' => ∃ g, e = .returned (.slice (some ⟨g, 0, none⟩) 5 5) ∧ Grow w w' ∧ ∀ lvl, lvl < 5 → ∃ ga gb c d cs, LvB w' g lvl ga gb c d cs := by
  have bel := Below.refl w.heap.size w
  refine Calls.start 17 Try.func123 rfl rfl rfl ?_
  refine Cd.seq ?_
  refine Cd.region ?_
  refine Seq.val (Runs.assign rfl rfl) rfl rfl rfl ?_
  refine Seq.nil ?_
  refine Post.weak (F' := [(0, _)]) ⟨rfl, trivial⟩ ?_
  refine Post.then_ ?_
  refine Cd.seq ?_
  refine Cd.region ?_
  refine Seq.slice (vs := [_]) (s := 1) rfl rfl rfl Try.underlying85 (by kernel_rfl) (zero_string) (by omega) (by omega) ⟨rfl, trivial⟩ rfl rfl rfl ?_
  intro g1 w1 n1
  have e1 := Nat.le_trans bel.size n1.ge
  replace bel := bel.step n1.below
  have k1 := n1.blk
  refine Seq.slice (vs := [_]) (s := 1) rfl rfl rfl Try.underlying26 (by kernel_rfl) (zero_int) (by omega) (by omega) ⟨rfl, trivial⟩ rfl rfl rfl ?_
  intro g2 w2 n2
  have e2 := Nat.le_trans bel.size n2.ge
  have l2 := Nat.lt_of_lt_of_le k1.lt n2.ge
  replace bel := bel.step n2.below
  replace k1 := k1.step n2.below
  have k2 := n2.blk
  refine Seq.val (Runs.build rfl rfl (run_build_level _ _ _ _ _ _ _ _)) rfl rfl rfl ?_
  refine Seq.slice (vs := [_]) (s := 1) rfl rfl rfl Try.underlying85 (by kernel_rfl) (zero_string) (by omega) (by omega) ⟨rfl, trivial⟩ rfl rfl rfl ?_
  intro g4 w3 n4
  have e4 := Nat.le_trans bel.size n4.ge
  have l4 := Nat.lt_of_lt_of_le k2.lt n4.ge
  replace bel := bel.step n4.below
  replace k1 := k1.step n4.below
  replace k2 := k2.step n4.below
  have k4 := n4.blk
  refine Seq.slice (vs := [_]) (s := 1) rfl rfl rfl Try.underlying26 (by kernel_rfl) (zero_int) (by omega) (by omega) ⟨rfl, trivial⟩ rfl rfl rfl ?_
  intro g5 w4 n5
  have e5 := Nat.le_trans bel.size n5.ge
  have l5 := Nat.lt_of_lt_of_le k4.lt n5.ge
  replace bel := bel.step n5.below
  replace k1 := k1.step n5.below
  replace k2 := k2.step n5.below
  replace k4 := k4.step n5.below
  have k5 := n5.blk
  refine Seq.val (Runs.build rfl rfl (run_build_level _ _ _ _ _ _ _ _)) rfl rfl rfl ?_
  refine Seq.slice (vs := [_, _, _, _, _, _]) (s := 1) rfl rfl rfl Try.underlying85 (by kernel_rfl) (zero_string) (by omega) (by omega) ⟨rfl, rfl, rfl, rfl, rfl, rfl, trivial⟩ rfl rfl rfl ?_
  intro g7 w5 n7
  have e7 := Nat.le_trans bel.size n7.ge
  have l7 := Nat.lt_of_lt_of_le k5.lt n7.ge
  replace bel := bel.step n7.below
  replace k1 := k1.step n7.below
  replace k2 := k2.step n7.below
  replace k4 := k4.step n7.below
  replace k5 := k5.step n7.below
  have k7 := n7.blk
  refine Seq.slice (vs := [_, _, _, _, _, _]) (s := 1) rfl rfl rfl Try.underlying26 (by kernel_rfl) (zero_int) (by omega) (by omega) ⟨rfl, rfl, rfl, rfl, rfl, rfl, trivial⟩ rfl rfl rfl ?_
  intro g8 w6 n8
  have e8 := Nat.le_trans bel.size n8.ge
  have l8 := Nat.lt_of_lt_of_le k7.lt n8.ge
  replace bel := bel.step n8.below
  replace k1 := k1.step n8.below
  replace k2 := k2.step n8.below
  replace k4 := k4.step n8.below
  replace k5 := k5.step n8.below
  replace k7 := k7.step n8.below
  have k8 := n8.blk
  refine Seq.val (Runs.build rfl rfl (run_build_level _ _ _ _ _ _ _ _)) rfl rfl rfl ?_
  refine Seq.slice (vs := [_, _]) (s := 1) rfl rfl rfl Try.underlying85 (by kernel_rfl) (zero_string) (by omega) (by omega) ⟨rfl, rfl, trivial⟩ rfl rfl rfl ?_
  intro g10 w7 n10
  have e10 := Nat.le_trans bel.size n10.ge
  have l10 := Nat.lt_of_lt_of_le k8.lt n10.ge
  replace bel := bel.step n10.below
  replace k1 := k1.step n10.below
  replace k2 := k2.step n10.below
  replace k4 := k4.step n10.below
  replace k5 := k5.step n10.below
  replace k7 := k7.step n10.below
  replace k8 := k8.step n10.below
  have k10 := n10.blk
  refine Seq.slice (vs := [_, _]) (s := 1) rfl rfl rfl Try.underlying26 (by kernel_rfl) (zero_int) (by omega) (by omega) ⟨rfl, rfl, trivial⟩ rfl rfl rfl ?_
  intro g11 w8 n11
  have e11 := Nat.le_trans bel.size n11.ge
  have l11 := Nat.lt_of_lt_of_le k10.lt n11.ge
  replace bel := bel.step n11.below
  replace k1 := k1.step n11.below
  replace k2 := k2.step n11.below
  replace k4 := k4.step n11.below
  replace k5 := k5.step n11.below
  replace k7 := k7.step n11.below
  replace k8 := k8.step n11.below
  replace k10 := k10.step n11.below
  have k11 := n11.blk
  refine Seq.val (Runs.build rfl rfl (run_build_level _ _ _ _ _ _ _ _)) rfl rfl rfl ?_
  refine Seq.slice (vs := [_, _]) (s := 1) rfl rfl rfl Try.underlying85 (by kernel_rfl) (zero_string) (by omega) (by omega) ⟨rfl, rfl, trivial⟩ rfl rfl rfl ?_
  intro g13 w9 n13
  have e13 := Nat.le_trans bel.size n13.ge
  have l13 := Nat.lt_of_lt_of_le k11.lt n13.ge
  replace bel := bel.step n13.below
  replace k1 := k1.step n13.below
  replace k2 := k2.step n13.below
  replace k4 := k4.step n13.below
  replace k5 := k5.step n13.below
  replace k7 := k7.step n13.below
  replace k8 := k8.step n13.below
  replace k10 := k10.step n13.below
  replace k11 := k11.step n13.below
  have k13 := n13.blk
  refine Seq.slice (vs := [_, _]) (s := 1) rfl rfl rfl Try.underlying26 (by kernel_rfl) (zero_int) (by omega) (by omega) ⟨rfl, rfl, trivial⟩ rfl rfl rfl ?_
  intro g14 w10 n14
  have e14 := Nat.le_trans bel.size n14.ge
  have l14 := Nat.lt_of_lt_of_le k13.lt n14.ge
  replace bel := bel.step n14.below
  replace k1 := k1.step n14.below
  replace k2 := k2.step n14.below
  replace k4 := k4.step n14.below
  replace k5 := k5.step n14.below
  replace k7 := k7.step n14.below
  replace k8 := k8.step n14.below
  replace k10 := k10.step n14.below
  replace k11 := k11.step n14.below
  replace k13 := k13.step n14.below
  have k14 := n14.blk
  refine Seq.val (Runs.build rfl rfl (run_build_level _ _ _ _ _ _ _ _)) rfl rfl rfl ?_
  refine Seq.slice (vs := [_, _, _, _, _]) (s := 3) rfl rfl rfl Try.underlying153 (by kernel_rfl) (zero_parse_level) (by omega) (by omega) ⟨rfl, rfl, rfl, rfl, rfl, trivial⟩ rfl rfl rfl ?_
  intro g16 w11 n16
  have e16 := Nat.le_trans bel.size n16.ge
  have l16 := Nat.lt_of_lt_of_le k14.lt n16.ge
  replace bel := bel.step n16.below
  replace k1 := k1.step n16.below
  replace k2 := k2.step n16.below
  replace k4 := k4.step n16.below
  replace k5 := k5.step n16.below
  replace k7 := k7.step n16.below
  replace k8 := k8.step n16.below
  replace k10 := k10.step n16.below
  replace k11 := k11.step n16.below
  replace k13 := k13.step n16.below
  replace k14 := k14.step n16.below
  have k16 := n16.blk
  refine Seq.val (Runs.assign rfl rfl) rfl rfl rfl ?_
  refine Seq.nil ?_
  refine Post.weak (F' := [(0, _)]) ⟨rfl, trivial⟩ ?_
  refine Post.then_ ?_
  refine Cd.ret ?_
  refine Post.end1 rfl rfl (.inl rfl) ?_
  refine ⟨_, rfl, bel, fun lvl hlvl => ?_⟩
  match lvl, hlvl with
  | 0, _ => exact ⟨_, _, _, _, _, k16, rfl, rfl, rfl, k1, k2⟩
  | 1, _ => exact ⟨_, _, _, _, _, k16, rfl, rfl, rfl, k4, k5⟩
  | 2, _ => exact ⟨_, _, _, _, _, k16, rfl, rfl, rfl, k7, k8⟩
  | 3, _ => exact ⟨_, _, _, _, _, k16, rfl, rfl, rfl, k10, k11⟩
  | 4, _ => exact ⟨_, _, _, _, _, k16, rfl, rfl, rfl, k13, k14⟩
theorem terms_any (t : List Nat) (w : World) (ht : ∀ x ∈ t, x < 256) : Calls Try.prog 113 #[.string (strOf t)] w fun e w' => e = .returned (.tuple #[.int .i64 (termsW t).1, .int .i64 ((termsW t).2.1 : Int), .int .i64 ((termsW t).2.2 : Int)]) ∧ Grow w w' := by
  have bel := Below.refl w.heap.size w
  unfold termsW
  refine Calls.start 20 Try.func113 rfl rfl rfl ?_
  refine Cd.seq ?_
  refine Cd.region ?_
  refine Seq.val (Runs.assign rfl rfl) rfl rfl rfl ?_
  refine Seq.val (Runs.assign rfl rfl) rfl rfl rfl ?_
  refine Seq.val (Runs.assign rfl rfl) rfl rfl rfl ?_
  refine Seq.nil ?_
  refine Post.weak (F' := [(0, _), (2, _), (3, _), (4, _)]) ⟨rfl, rfl, rfl, rfl, trivial⟩ ?_
  refine Post.then_ ?_
  refine Cd.seq ?_
  refine Cd.seq ?_
  refine Cd.region ?_
  refine Seq.val (Runs.move rfl rfl) rfl rfl rfl ?_
  refine Seq.nil ?_
  refine Post.weak (F' := [(0, _), (2, _), (3, _), (4, _), (5, _)]) ⟨rfl, rfl, rfl, rfl, rfl, trivial⟩ ?_
  refine Post.then_ ?_
  refine Cd.block ?_
  refine Cd.seq ?_
  refine Cd.region ?_
  refine Seq.val (Runs.eqlL (b := [103, 105, 118, 101]) rfl rfl rfl ht (by decide)) rfl rfl rfl ?_
  refine Seq.val (Runs.assign rfl rfl) rfl rfl rfl ?_
  refine Seq.nil ?_
  refine Post.weak (F' := [(0, _), (2, _), (3, _), (4, _), (5, _), (6, _)]) ⟨rfl, rfl, rfl, rfl, rfl, rfl, trivial⟩ ?_
  refine Post.then_ ?_
  refine Cd.condD rfl (fun hc => ?_) (fun h0 => ?_)
  · rw [if_pos hc]
    refine Cd.seq ?_
    refine Cd.region ?_
    refine Seq.val (Runs.assign rfl rfl) rfl rfl rfl ?_
    refine Seq.val (Runs.assign rfl rfl) rfl rfl rfl ?_
    refine Seq.val (Runs.assign rfl rfl) rfl rfl rfl ?_
    refine Seq.nil ?_
    refine Post.weak (F' := [(0, _), (2, _), (3, _), (4, _), (5, _), (6, _)]) ⟨rfl, rfl, rfl, rfl, rfl, rfl, trivial⟩ ?_
    refine Post.then_ ?_
    refine Cd.ret ?_
    refine Post.block_ret ?_
    refine Post.then_ret ?_
    refine Post.end3 rfl rfl rfl rfl (.inl rfl) ?_
    exact ⟨rfl, bel⟩
  refine Cd.seq ?_
  refine Cd.region ?_
  refine Seq.val (Runs.eqlL (b := [97, 110, 100]) rfl rfl rfl ht (by decide)) rfl rfl rfl ?_
  refine Seq.val (Runs.assign rfl rfl) rfl rfl rfl ?_
  refine Seq.nil ?_
  refine Post.weak (F' := [(0, _), (2, _), (3, _), (4, _), (5, _), (6, _), (8, _)]) ⟨rfl, rfl, rfl, rfl, rfl, rfl, rfl, trivial⟩ ?_
  refine Post.then_ ?_
  refine Cd.condD rfl (fun hc => ?_) (fun h1 => ?_)
  · rw [if_neg h0, if_pos hc]
    refine Cd.seq ?_
    refine Cd.region ?_
    refine Seq.val (Runs.assign rfl rfl) rfl rfl rfl ?_
    refine Seq.val (Runs.assign rfl rfl) rfl rfl rfl ?_
    refine Seq.val (Runs.assign rfl rfl) rfl rfl rfl ?_
    refine Seq.nil ?_
    refine Post.weak (F' := [(0, _), (2, _), (3, _), (4, _), (5, _), (6, _), (8, _)]) ⟨rfl, rfl, rfl, rfl, rfl, rfl, rfl, trivial⟩ ?_
    refine Post.then_ ?_
    refine Cd.ret ?_
    refine Post.block_ret ?_
    refine Post.then_ret ?_
    refine Post.end3 rfl rfl rfl rfl (.inl rfl) ?_
    exact ⟨rfl, bel⟩
  refine Cd.seq ?_
  refine Cd.region ?_
  refine Seq.val (Runs.eqlL (b := [111, 114]) rfl rfl rfl ht (by decide)) rfl rfl rfl ?_
  refine Seq.val (Runs.assign rfl rfl) rfl rfl rfl ?_
  refine Seq.nil ?_
  refine Post.weak (F' := [(0, _), (2, _), (3, _), (4, _), (5, _), (6, _), (8, _), (10, _)]) ⟨rfl, rfl, rfl, rfl, rfl, rfl, rfl, rfl, trivial⟩ ?_
  refine Post.then_ ?_
  refine Cd.condD rfl (fun hc => ?_) (fun h2 => ?_)
  · rw [if_neg h0, if_neg h1, if_pos hc]
    refine Cd.seq ?_
    refine Cd.region ?_
    refine Seq.val (Runs.assign rfl rfl) rfl rfl rfl ?_
    refine Seq.val (Runs.assign rfl rfl) rfl rfl rfl ?_
    refine Seq.val (Runs.assign rfl rfl) rfl rfl rfl ?_
    refine Seq.nil ?_
    refine Post.weak (F' := [(0, _), (2, _), (3, _), (4, _), (5, _), (6, _), (8, _), (10, _)]) ⟨rfl, rfl, rfl, rfl, rfl, rfl, rfl, rfl, trivial⟩ ?_
    refine Post.then_ ?_
    refine Cd.ret ?_
    refine Post.block_ret ?_
    refine Post.then_ret ?_
    refine Post.end3 rfl rfl rfl rfl (.inl rfl) ?_
    exact ⟨rfl, bel⟩
  refine Cd.seq ?_
  refine Cd.region ?_
  refine Seq.val (Runs.eqlL (b := [115, 99, 97, 108, 101]) rfl rfl rfl ht (by decide)) rfl rfl rfl ?_
  refine Seq.val (Runs.assign rfl rfl) rfl rfl rfl ?_
  refine Seq.nil ?_
  refine Post.weak (F' := [(0, _), (2, _), (3, _), (4, _), (5, _), (6, _), (8, _), (10, _), (12, _)]) ⟨rfl, rfl, rfl, rfl, rfl, rfl, rfl, rfl, rfl, trivial⟩ ?_
  refine Post.then_ ?_
  refine Cd.condD rfl (fun hc => ?_) (fun h3 => ?_)
  · rw [if_neg h0, if_neg h1, if_neg h2, if_pos hc]
    refine Cd.seq ?_
    refine Cd.region ?_
    refine Seq.val (Runs.assign rfl rfl) rfl rfl rfl ?_
    refine Seq.val (Runs.assign rfl rfl) rfl rfl rfl ?_
    refine Seq.val (Runs.assign rfl rfl) rfl rfl rfl ?_
    refine Seq.nil ?_
    refine Post.weak (F' := [(0, _), (2, _), (3, _), (4, _), (5, _), (6, _), (8, _), (10, _), (12, _)]) ⟨rfl, rfl, rfl, rfl, rfl, rfl, rfl, rfl, rfl, trivial⟩ ?_
    refine Post.then_ ?_
    refine Cd.ret ?_
    refine Post.block_ret ?_
    refine Post.then_ret ?_
    refine Post.end3 rfl rfl rfl rfl (.inl rfl) ?_
    exact ⟨rfl, bel⟩
  refine Cd.seq ?_
  refine Cd.region ?_
  refine Seq.val (Runs.eqlL (b := [119, 104, 101, 110]) rfl rfl rfl ht (by decide)) rfl rfl rfl ?_
  refine Seq.val (Runs.assign rfl rfl) rfl rfl rfl ?_
  refine Seq.nil ?_
  refine Post.weak (F' := [(0, _), (2, _), (3, _), (4, _), (5, _), (6, _), (8, _), (10, _), (12, _), (14, _)]) ⟨rfl, rfl, rfl, rfl, rfl, rfl, rfl, rfl, rfl, rfl, trivial⟩ ?_
  refine Post.then_ ?_
  refine Cd.condD rfl (fun hc => ?_) (fun h4 => ?_)
  · rw [if_neg h0, if_neg h1, if_neg h2, if_neg h3, if_pos hc]
    refine Cd.seq ?_
    refine Cd.region ?_
    refine Seq.val (Runs.assign rfl rfl) rfl rfl rfl ?_
    refine Seq.val (Runs.assign rfl rfl) rfl rfl rfl ?_
    refine Seq.val (Runs.assign rfl rfl) rfl rfl rfl ?_
    refine Seq.nil ?_
    refine Post.weak (F' := [(0, _), (2, _), (3, _), (4, _), (5, _), (6, _), (8, _), (10, _), (12, _), (14, _)]) ⟨rfl, rfl, rfl, rfl, rfl, rfl, rfl, rfl, rfl, rfl, trivial⟩ ?_
    refine Post.then_ ?_
    refine Cd.ret ?_
    refine Post.block_ret ?_
    refine Post.then_ret ?_
    refine Post.end3 rfl rfl rfl rfl (.inl rfl) ?_
    exact ⟨rfl, bel⟩
  refine Cd.seq ?_
  refine Cd.region ?_
  refine Seq.val (Runs.eqlL (b := [117, 110, 116, 105, 108]) rfl rfl rfl ht (by decide)) rfl rfl rfl ?_
  refine Seq.val (Runs.assign rfl rfl) rfl rfl rfl ?_
  refine Seq.nil ?_
  refine Post.weak (F' := [(0, _), (2, _), (3, _), (4, _), (5, _), (6, _), (8, _), (10, _), (12, _), (14, _), (16, _)]) ⟨rfl, rfl, rfl, rfl, rfl, rfl, rfl, rfl, rfl, rfl, rfl, trivial⟩ ?_
  refine Post.then_ ?_
  refine Cd.condD rfl (fun hc => ?_) (fun h5 => ?_)
  · rw [if_neg h0, if_neg h1, if_neg h2, if_neg h3, if_neg h4, if_pos hc]
    refine Cd.seq ?_
    refine Cd.region ?_
    refine Seq.val (Runs.assign rfl rfl) rfl rfl rfl ?_
    refine Seq.val (Runs.assign rfl rfl) rfl rfl rfl ?_
    refine Seq.val (Runs.assign rfl rfl) rfl rfl rfl ?_
    refine Seq.nil ?_
    refine Post.weak (F' := [(0, _), (2, _), (3, _), (4, _), (5, _), (6, _), (8, _), (10, _), (12, _), (14, _), (16, _)]) ⟨rfl, rfl, rfl, rfl, rfl, rfl, rfl, rfl, rfl, rfl, rfl, trivial⟩ ?_
    refine Post.then_ ?_
    refine Cd.ret ?_
    refine Post.block_ret ?_
    refine Post.then_ret ?_
    refine Post.end3 rfl rfl rfl rfl (.inl rfl) ?_
    exact ⟨rfl, bel⟩
  refine Cd.seq ?_
  refine Cd.region ?_
  refine Seq.val (Runs.eqlL (b := [97, 110, 121, 116, 105, 109, 101]) rfl rfl rfl ht (by decide)) rfl rfl rfl ?_
  refine Seq.val (Runs.assign rfl rfl) rfl rfl rfl ?_
  refine Seq.nil ?_
  refine Post.weak (F' := [(0, _), (2, _), (3, _), (4, _), (5, _), (6, _), (8, _), (10, _), (12, _), (14, _), (16, _), (18, _)]) ⟨rfl, rfl, rfl, rfl, rfl, rfl, rfl, rfl, rfl, rfl, rfl, rfl, trivial⟩ ?_
  refine Post.then_ ?_
  refine Cd.condD rfl (fun hc => ?_) (fun h6 => ?_)
  · rw [if_neg h0, if_neg h1, if_neg h2, if_neg h3, if_neg h4, if_neg h5, if_pos hc]
    refine Cd.seq ?_
    refine Cd.region ?_
    refine Seq.val (Runs.assign rfl rfl) rfl rfl rfl ?_
    refine Seq.val (Runs.assign rfl rfl) rfl rfl rfl ?_
    refine Seq.val (Runs.assign rfl rfl) rfl rfl rfl ?_
    refine Seq.nil ?_
    refine Post.weak (F' := [(0, _), (2, _), (3, _), (4, _), (5, _), (6, _), (8, _), (10, _), (12, _), (14, _), (16, _), (18, _)]) ⟨rfl, rfl, rfl, rfl, rfl, rfl, rfl, rfl, rfl, rfl, rfl, rfl, trivial⟩ ?_
    refine Post.then_ ?_
    refine Cd.ret ?_
    refine Post.block_ret ?_
    refine Post.then_ret ?_
    refine Post.end3 rfl rfl rfl rfl (.inl rfl) ?_
    exact ⟨rfl, bel⟩
  refine Cd.skip ?_
  refine Post.block_normal ?_
  refine Post.then_ ?_
  refine Cd.seq ?_
  refine Cd.region ?_
  refine Seq.val (Runs.assign rfl rfl) rfl rfl rfl ?_
  refine Seq.val (Runs.assign rfl rfl) rfl rfl rfl ?_
  refine Seq.val (Runs.assign rfl rfl) rfl rfl rfl ?_
  refine Seq.nil ?_
  refine Post.weak (F' := [(0, _), (2, _), (3, _), (4, _), (5, _), (6, _), (8, _), (10, _), (12, _), (14, _), (16, _), (18, _)]) ⟨rfl, rfl, rfl, rfl, rfl, rfl, rfl, rfl, rfl, rfl, rfl, rfl, trivial⟩ ?_
  refine Post.then_ ?_
  refine Cd.ret ?_
  refine Post.end3 rfl rfl rfl rfl (.inl rfl) ?_
  rw [if_neg h0, if_neg h1, if_neg h2, if_neg h3, if_neg h4, if_neg h5, if_neg h6]
  exact ⟨rfl, bel⟩
theorem name_any (K : Ctx) (hK : K.Ok) (p d : Nat) (w : World) (h : PW K w p d false) : Calls Try.prog 112 #[.pointer (some ⟨K.g, 0, none⟩)] w (PR K w d (nameP K.ws p) fun nm v _ => v = .string (strOf nm)) := by
  have bel := Fz.refl w.heap.size K.g w
  have k99 := h.blk
  have e99 : K.g = K.g := rfl
  have hlt := h.blk.lt
  have hlen := hK.len
  have hle := h.p_le
  obtain ⟨a1, a2, a3, a4, a5⟩ := hK.at_ p
  obtain ⟨b1, b2, b3⟩ := K.at_kind p
  have hw := fun W (hb : Below w.heap.size w W) => word_any K hK p d false W (h.step hK.le hb)
  unfold wdV at hw
  have hres := fun W => reserved_any (K.at_ p).text W a3
  have hq : nameP K.ws p = if (K.at_ p).kind = 3 ∧ reservedB (K.at_ p).text = false then .ok (K.at_ p).text (p + 1) else .bad p false := by rw [b1, b2]; rfl
  refine Calls.start 25 Try.func112 rfl rfl rfl ?_
  refine Cd.seq ?_
  refine Cd.region ?_
  refine Seq.val (Runs.assign rfl rfl) rfl rfl rfl ?_
  refine Seq.nil ?_
  refine Post.weak (F' := [(0, _), (2, _)]) ⟨rfl, rfl, trivial⟩ ?_
  refine Post.then_ ?_
  refine Cd.seq ?_
  refine Cd.region ?_
  refine Seq.val (Runs.move rfl rfl) rfl rfl rfl ?_
  refine Seq.call (Enters.func rfl rfl rfl (run_enter Try.func108 (by kernel_rfl) rfl)) rfl rfl rfl (hw _ (Below.refl _ _)) ?_
  rintro e w5 ⟨rfl, hb5⟩
  refine ⟨_, rfl, ?_⟩
  replace bel := bel.step hb5
  replace k99 := k99.step hb5
  refine Seq.alloc rfl (run_zero zero_lex_Word) rfl rfl rfl ?_
  intro g3 w1 n3
  have e3 := Nat.le_trans bel.size n3.ge
  have l3 := Nat.lt_of_lt_of_le k99.lt n3.ge
  replace bel := bel.step n3.below
  replace k99 := k99.step n3.below
  have k3 := n3.blk
  refine Seq.storeN rfl rfl rfl rfl (m := 4) (by kernel_rfl) rfl (by repeat' first | exact trivial | apply And.intro | rfl | assumption) k3 (by simp [Value.cells]) rfl rfl ?_
  intro w2 pw2
  replace bel := bel.put k3 pw2 e3
  replace k99 := k99.put pw2 (by omega)
  replace k3 := pw2.blk
  refine Seq.nil ?_
  refine Post.weak (F' := [(0, _), (2, _), (3, _)]) ⟨rfl, rfl, rfl, trivial⟩ ?_
  refine Post.then_ ?_
  refine Cd.seq ?_
  refine Cd.seq ?_
  refine Cd.region ?_
  refine Seq.val (Runs.fieldB 0 rfl rfl Try.underlying50 rfl (by kernel_rfl)) rfl rfl rfl ?_
  refine Seq.val (Runs.loadB rfl rfl Try.underlying3 rfl k3 rfl) rfl rfl rfl ?_
  refine Seq.val (Runs.neqI rfl rfl rfl) rfl rfl rfl ?_
  refine Seq.val (Runs.move rfl rfl) rfl rfl rfl ?_
  refine SeqC.start ?_
  refine SeqC.open rfl rfl rfl rfl rfl rfl rfl (fun hcx => Runs.fieldB 1 rfl rfl Try.underlying50 rfl (by kernel_rfl)) ?_
  refine SeqC.next rfl rfl rfl rfl rfl rfl rfl (fun hcx => Runs.loadB rfl rfl Try.underlying9 rfl k3 rfl) ?_
  refine SeqC.nextC rfl rfl rfl rfl rfl rfl rfl (fun hcx => Enters.func rfl rfl rfl (run_enter Try.func150 (by kernel_rfl) rfl)) (fun hcx => hres _) ?_
  intro w3 hw3
  replace bel := bel.step hw3
  replace k99 := k99.step hw3
  replace k3 := k3.step hw3
  refine SeqC.or rfl rfl rfl rfl rfl rfl rfl ?_
  refine Seq.nil ?_
  refine Post.weak (F' := [(0, _), (2, _), (3, _), (13, _)]) ⟨rfl, rfl, rfl, rfl, trivial⟩ ?_
  refine Post.then_ ?_
  refine Cd.cond rfl (fun hc => ?_) (fun hc => ?_)
  · have hc : ¬ ((K.at_ p).kind = 3 ∧ reservedB (K.at_ p).text = false) := by
      rintro ⟨c1, c2⟩
      simp [c1, c2] at hc
    rw [if_neg hc] at hq
    refine Cd.region ?_
    refine Seq.val (Runs.move rfl rfl) rfl rfl rfl ?_
    refine Seq.callB (Enters.func rfl rfl rfl (run_enter Try.func109 (by kernel_rfl) rfl)) rfl (fail_any K.g _) ?_
    rintro e w6 ⟨rfl, hb6⟩
    refine ⟨_, rfl, fun a ha => ⟨ha.defers, ?_⟩⟩
    rw [hq]
    exact ⟨bel.step hb6, rfl, d, ⟨k99.step hb6, h.rd.below ((bel.step hb6).below (by have := hK.le; omega) hK.le), h.p_le, h.d_le⟩⟩
  · have hc : (K.at_ p).kind = 3 ∧ reservedB (K.at_ p).text = false := by
      simpa using hc
    rw [if_pos hc] at hq
    have hp : p + 1 ≤ K.ws.length := by
      rcases Nat.lt_or_ge p K.ws.length with hp | hp
      · exact hp
      · have h1 : (K.at_ p).kind = -1 := by unfold Ctx.at_; rw [List.getD_eq_getElem?_getD, List.getElem?_eq_none hp]; rfl
        rw [h1] at hc
        exact absurd hc.1 (by decide)
    refine Cd.skip ?_
    refine Post.then_ ?_
    refine Cd.seq ?_
    refine Cd.region ?_
    refine Seq.val (Runs.move rfl rfl) rfl rfl rfl ?_
    refine Seq.val (Runs.nilCheck rfl rfl) rfl rfl rfl ?_
    refine Seq.val (Runs.fieldB 1 rfl rfl Try.underlying141 rfl (by kernel_rfl)) rfl rfl rfl ?_
    refine Seq.val (Runs.loadB rfl rfl Try.underlying3 rfl k99 rfl) rfl rfl rfl ?_
    refine Seq.val (Runs.addI rfl rfl rfl (by omega) (by omega)) rfl rfl rfl ?_
    refine Seq.val (Runs.nilCheck rfl rfl) rfl rfl rfl ?_
    refine Seq.val (Runs.fieldB 1 rfl rfl Try.underlying141 rfl (by kernel_rfl)) rfl rfl rfl ?_
    refine Seq.store1 rfl rfl rfl (by kernel_rfl) rfl rfl k99 rfl rfl rfl ?_
    intro w4 pw4
    replace bel := bel.put k99 pw4 e99
    replace k3 := k3.put pw4 (by omega)
    replace k99 := pw4.blk
    refine Seq.nil ?_
    refine Post.weak (F' := [(0, _), (2, _), (3, _), (13, _)]) ⟨rfl, rfl, rfl, rfl, trivial⟩ ?_
    refine Post.then_ ?_
    refine Cd.seq ?_
    refine Cd.region ?_
    refine Seq.val (Runs.fieldB 1 rfl rfl Try.underlying50 rfl (by kernel_rfl)) rfl rfl rfl ?_
    refine Seq.val (Runs.loadB rfl rfl Try.underlying9 rfl k3 rfl) rfl rfl rfl ?_
    refine Seq.val (Runs.assign rfl rfl) rfl rfl rfl ?_
    refine Seq.nil ?_
    refine Post.weak (F' := [(0, _), (2, _), (3, _), (13, _)]) ⟨rfl, rfl, rfl, rfl, trivial⟩ ?_
    refine Post.then_ ?_
    refine Cd.ret ?_
    refine Post.end1 rfl rfl (.inl rfl) ?_
    rw [hq]
    exact ⟨bel, _, rfl, h.next hK.le hp bel k99, rfl⟩
end Go.Proofs.Ytijaldpmpjapiaa

namespace Go.Proofs.Ytijaldpmpjapiaa
open Go.RowKit

theorem Ctx.Ok.le_of {K : Ctx} (hK : K.Ok) {w : World} {p d : Nat} {ov : Bool} (h : PW K w p d ov) : K.B ≤ w.heap.size := by have := hK.le; have := h.blk.lt; omega
theorem signQ_ne (ws : List Wd) (s : List Nat) (p : Nat) : signQ ws s p ≠ .out := by unfold signQ; split <;> simp
theorem enterP_ne (p d : Nat) : enterP p d ≠ .out := by unfold enterP; split <;> simp
theorem nameP_ne (ws : List Wd) (p : Nat) : nameP ws p ≠ .out := by unfold nameP; split <;> simp
theorem partsP_cons {α : Type} (ws : List Wd) (one : Nat → Nat → Rs α) (r : List (Nat → Nat → Rs α)) (first : Bool) (p d : Nat) : partsP ws (one :: r) first p d = (if first = true then Rs.ok () p else signQ ws [44] p).bind fun _ p => (one p d).bind fun x p => (partsP ws r false p d).bind fun xs p => .ok (x :: xs) p := rfl
theorem PW.deep {K : Ctx} {w : World} {p d : Nat} (h : PW K w p d false) : d ≤ 64 := by
  rcases h.d_le with h | ⟨h, -⟩
  · exact h
  · cases h
theorem PRh.mono {α : Type} {K : Ctx} {h d : Nat} {w w' : World} {r : Rs α} {ok1 ok2 : α → Value → World → Prop} {e : Ending} (hr : PRh K h w d r ok1 e w') (hm : ∀ a v w', ok1 a v w' → ok2 a v w') : PRh K h w d r ok2 e w' := by
  refine ⟨hr.1, ?_⟩
  cases r with
  | out => exact hr.2
  | bad p o => exact hr.2
  | ok a p => obtain ⟨v, h1, h2, h3⟩ := hr.2; exact ⟨v, h1, h2, hm _ _ _ h3⟩
theorem within_any {α : Type} (K : Ctx) (hK : K.Ok) (h0 : Nat) (ones : List (Nat → Nat → Rs α)) (fs : List (Nat × List Value)) (AP : Option Addr) (cP : Nat) (M : List α → World → Prop) (p d : Nat) (w : World) (h : PW K w p d false) (hh0 : h0 ≤ w.heap.size)
    (hlen : fs.length = ones.length) (hn : ones.length ≤ 10) (hM0 : M [] w) (hMs : ∀ (xs : List α) (W W' : World) (p d : Nat), M xs W → PW K W p d false → Fz W.heap.size K.g W W' → M xs W')
    (hMr : ∀ (xs : List α) (W : World) (i f : Nat) (cp : List Value), M xs W → fs[i]? = some (f, cp) → ∃ ad, AP = some ad ∧ W.cell? (ad.add i) = some (.func (.func f) #[] cp.toArray))
    (heg : ∀ (i f : Nat) (cp : List Value), fs[i]? = some (f, cp) → ∀ args w, (callFunc f args).run Try.prog w = .ok (.enter f args) w)
    (hone : ∀ (i f : Nat) (cp : List Value) (one : Nat → Nat → Rs α), fs[i]? = some (f, cp) → ones[i]? = some one → ∀ (xs : List α) (W : World) (p : Nat), xs.length = i → PW K W p (d + 1) false → h0 ≤ W.heap.size → M xs W → one p (d + 1) ≠ .out → Calls Try.prog f cp.toArray W (PRh K h0 W (d + 1) (one p (d + 1)) fun x _ W' => M (xs ++ [x]) W'))
    (hne : withinP K.ws ones p d ≠ .out) :
    Calls Try.prog 110 #[.pointer (some ⟨K.g, 0, none⟩), .slice AP fs.length cP] w (PRh K h0 w d (withinP K.ws ones p d) fun xs _ W' => M xs W') := by
  have bel := Fz.refl h0 K.g w
  have pw := h
  have e99 : K.g = K.g := rfl
  have hlt := h.blk.lt
  have hle := hK.le
  obtain ⟨R, hR⟩ : ∃ R, R = withinP K.ws ones p d := ⟨_, rfl⟩
  rw [← hR] at hne ⊢
  have hRu : R = (signQ K.ws [40] p).bind fun _ p => (enterP p d).bind fun _ p => (partsP K.ws ones true p (d + 1)).bind fun xs p => (signQ K.ws [41] p).bind fun _ p => .ok xs p := hR
  clear hR
  have hsg := signQ_any K hK p d [40] w h (by decide)
  refine Calls.start 33 Try.func110 rfl rfl rfl ?_
  refine Cd.seq ?_
  refine Cd.region ?_
  refine Seq.val (Runs.move rfl rfl) rfl rfl rfl ?_
  rcases Rs.ok_or (signQ_ne K.ws [40] p) with ⟨p1, o1, hr1⟩ | ⟨u1, p1, hr1⟩
  · rw [hr1] at hsg hRu
    refine Seq.callB (Enters.func rfl rfl rfl (run_enter Try.func148 (by kernel_rfl) rfl)) rfl hsg ?_
    rintro e w6 ⟨hf, rfl, d6, hp6⟩
    refine ⟨_, rfl, fun a ha => ⟨ha.defers, ?_⟩⟩
    rw [hRu]
    exact ⟨hf.less hh0, rfl, d6, hp6⟩
  rw [hr1] at hsg hRu
  replace hRu : R = (enterP p1 d).bind fun _ p => (partsP K.ws ones true p (d + 1)).bind fun xs p => (signQ K.ws [41] p).bind fun _ p => .ok xs p := hRu
  refine Seq.call (Enters.func rfl rfl rfl (run_enter Try.func148 (by kernel_rfl) rfl)) rfl rfl rfl (hsg) ?_
  rintro e w5 ⟨hf5, v5, rfl, pw, -⟩
  refine ⟨_, rfl, ?_⟩
  replace bel := bel.call hf5 hh0
  have hs5 := bel.size
  have hM5 := hMs _ _ _ _ _ hM0 h hf5
  have hen := enter_any K hK p1 d w5 pw
  have pwo := pw
  refine Seq.nil ?_
  refine Post.weak (F' := [(0, _), (1, _)]) ⟨rfl, rfl, trivial⟩ ?_
  refine Post.then_ ?_
  refine Cd.seq ?_
  refine Cd.region ?_
  refine Seq.val (Runs.move rfl rfl) rfl rfl rfl ?_
  rcases Rs.ok_or (enterP_ne p1 d) with ⟨p2, o2, hr2⟩ | ⟨u2, p2, hr2⟩
  · rw [hr2] at hen hRu
    refine Seq.callB (Enters.func rfl rfl rfl (run_enter Try.func149 (by kernel_rfl) rfl)) rfl hen ?_
    rintro e w6 ⟨hf, rfl, d6, hp6⟩
    refine ⟨_, rfl, fun a ha => ⟨ha.defers, ?_⟩⟩
    rw [hRu]
    exact ⟨bel.call hf hh0, rfl, d6, hp6⟩
  rw [hr2] at hen hRu
  replace hRu : R = (partsP K.ws ones true p2 (d + 1)).bind fun xs p => (signQ K.ws [41] p).bind fun _ p => .ok xs p := hRu
  refine Seq.call (Enters.func rfl rfl rfl (run_enter Try.func149 (by kernel_rfl) rfl)) rfl rfl rfl (hen) ?_
  rintro e w6 ⟨hf6, v6, rfl, pw, -⟩
  refine ⟨_, rfl, ?_⟩
  replace bel := bel.call hf6 hh0
  have hs6 := bel.size
  have hM6 := hMs _ _ _ _ _ hM5 pwo hf6
  obtain ⟨R0, hR0⟩ : ∃ R0, R0 = partsP K.ws ones true p2 (d + 1) := ⟨_, rfl⟩
  rw [← hR0] at hRu
  have hne0 : R0 ≠ .out := Rs.bind_ne (by rw [← hRu]; exact hne)
  refine Seq.nil ?_
  refine Post.weak (F' := [(0, _), (1, _)]) ⟨rfl, rfl, trivial⟩ ?_
  refine Post.then_ ?_
  refine Cd.seq ?_
  refine Cd.seq ?_
  refine Cd.region ?_
  refine Seq.val (Runs.move rfl rfl) rfl rfl rfl ?_
  refine Seq.val (Runs.len rfl rfl Try.underlying146) rfl rfl rfl ?_
  refine Seq.val (Runs.move rfl rfl) rfl rfl rfl ?_
  refine Seq.nil ?_
  refine Post.weak (F' := [(0, _), (1, _), (10, _), (11, _), (12, _)]) ⟨rfl, rfl, rfl, rfl, rfl, trivial⟩ ?_
  refine Post.then_ ?_
  refine Cd.block ?_
  refine Cd.loop (σ := Nat × Nat × List α) (fun s => [(0, .pointer (some ⟨K.g, 0, none⟩)), (10, .slice AP fs.length cP), (11, .int .i64 (fs.length : Int)), (12, .int .i64 (s.1 : Int))])
    (fun s wr => s.1 ≤ ones.length ∧ PW K wr s.2.1 (d + 1) false ∧ Fz h0 K.g w wr ∧ M s.2.2 wr ∧ s.2.2.length = s.1 ∧ R0 = (partsP K.ws (ones.drop s.1) (decide (s.1 = 0)) s.2.1 (d + 1)).bind fun ys p => .ok (s.2.2 ++ ys) p)
    (fun s => ones.length - s.1) (0, p2, []) ⟨Nat.zero_le _, pw, bel, hM6, rfl, by rw [hR0]; show _ = (partsP K.ws ones true p2 (d + 1)).bind _; cases partsP K.ws ones true p2 (d + 1) <;> rfl⟩ ⟨rfl, rfl, rfl, rfl, trivial⟩ ?_
  clear bel pw hM6 hM5 hM0 hR0
  rintro ⟨i, pi, xs⟩ wr ⟨hi, pw, bel, hM, hxl, hinv⟩
  dsimp only at hi pw hM hxl hinv ⊢
  have hsr := bel.size
  refine Cd.seq ?_
  refine Cd.region ?_
  refine Seq.val (Runs.lss rfl rfl rfl) rfl rfl rfl ?_
  refine Seq.nil ?_
  refine Post.weak (F' := [(0, _), (10, _), (11, _), (12, _), (13, _)]) ⟨rfl, rfl, rfl, rfl, rfl, trivial⟩ ?_
  refine Post.then_ ?_
  refine Cd.seq ?_
  refine Cd.condD rfl (fun hc => ?_) (fun hc => ?_)
  · obtain ⟨one, ho⟩ : ∃ one, ones[i]? = some one := ⟨_, List.getElem?_eq_getElem (by omega)⟩
    obtain ⟨⟨f, cp⟩, hfc⟩ : ∃ f, fs[i]? = some f := ⟨_, List.getElem?_eq_getElem (by omega)⟩
    obtain ⟨ad, hA, hcl⟩ := hMr xs wr i f cp hM hfc
    have hdr : ones.drop i = one :: ones.drop (i + 1) := by
      have hlt := (List.getElem?_eq_some_iff.1 ho).1
      rw [List.drop_eq_getElem_cons hlt]
      rw [List.getElem?_eq_getElem hlt] at ho
      injection ho with ho
      rw [ho]
    rw [hdr] at hinv
    rw [hA]
    refine Cd.skip ?_
    refine Post.then_ ?_
    refine Cd.seq ?_
    refine Cd.block ?_
    refine Cd.seq ?_
    refine Cd.region ?_
    refine Seq.val (Runs.move rfl rfl) rfl rfl rfl ?_
    refine Seq.val (Runs.index1 rfl rfl rfl Try.underlying146 (by kernel_rfl) (j := i) rfl (by omega)) rfl rfl rfl ?_
    refine Seq.val (Runs.load1 rfl rfl Try.underlying1 rfl hcl) rfl rfl rfl ?_
    refine Seq.val (Runs.assign rfl rfl) rfl rfl rfl ?_
    refine Seq.val (Runs.assign rfl rfl) rfl rfl rfl ?_
    refine Seq.nil ?_
    refine Post.weak (F' := [(0, _), (4, _), (5, _), (10, _), (11, _), (12, _), (13, _)]) ⟨rfl, rfl, rfl, rfl, rfl, rfl, rfl, trivial⟩ ?_
    refine Post.then_ ?_
    refine Cd.seqJ (σ := Nat) (fun _ => [(0, .pointer (some ⟨K.g, 0, none⟩)), (5, .func (.func f) #[] cp.toArray), (10, .slice (some ad) fs.length cP), (11, .int .i64 (fs.length : Int)), (12, .int .i64 (i : Int))]) (fun pj wj => PW K wj pj (d + 1) false ∧ Fz h0 K.g w wj ∧ M xs wj ∧ R0 = (one pj (d + 1)).bind fun x p => (partsP K.ws (ones.drop (i + 1)) false p (d + 1)).bind fun ys p => .ok (xs ++ (x :: ys)) p) ?_ ?_
    · skip
      refine Cd.seq ?_
      refine Cd.region ?_
      refine Seq.val (Runs.move rfl rfl) rfl rfl rfl ?_
      refine Seq.val (Runs.gtr rfl rfl rfl) rfl rfl rfl ?_
      refine Seq.nil ?_
      refine Post.weak (F' := [(0, _), (4, _), (5, _), (10, _), (11, _), (12, _), (13, _), (18, _)]) ⟨rfl, rfl, rfl, rfl, rfl, rfl, rfl, rfl, trivial⟩ ?_
      refine Post.then_ ?_
      refine Cd.condD rfl (fun hc => ?_) (fun hc => ?_)
      · have hinv : R0 = (signQ K.ws [44] pi).bind fun _ p => (one p (d + 1)).bind fun x p => (partsP K.ws (ones.drop (i + 1)) false p (d + 1)).bind fun ys p => .ok (xs ++ (x :: ys)) p := by
          rw [hinv, partsP_cons, decide_eq_false (show ¬ i = 0 by omega), if_neg (by decide)]
          simp only [Rs.bind_assoc]
          rfl
        have hsg := signQ_any K hK pi (d + 1) [44] wr pw (by decide)
        have pwo := pw
        refine Cd.region ?_
        refine Seq.val (Runs.move rfl rfl) rfl rfl rfl ?_
        rcases Rs.ok_or (signQ_ne K.ws [44] pi) with ⟨p1, o1, hr1⟩ | ⟨u1, p1, hr1⟩
        · rw [hr1] at hsg hinv
          refine Seq.callB (Enters.func rfl rfl rfl (run_enter Try.func148 (by kernel_rfl) rfl)) rfl hsg ?_
          rintro e w7 ⟨hf, rfl, d6, hp6⟩
          refine ⟨_, rfl, fun a ha => ⟨ha.defers, ?_⟩⟩
          rw [hRu, hinv]
          exact ⟨bel.call hf hh0, rfl, d6, hp6⟩
        rw [hr1] at hsg hinv
        refine Seq.call (Enters.func rfl rfl rfl (run_enter Try.func148 (by kernel_rfl) rfl)) rfl rfl rfl (hsg) ?_
        rintro e w7 ⟨hf7, v7, rfl, pw, -⟩
        refine ⟨_, rfl, ?_⟩
        refine Seq.nil ?_
        refine Post.weak (F' := [(0, _), (4, _), (5, _), (10, _), (11, _), (12, _), (13, _), (18, _)]) ⟨rfl, rfl, rfl, rfl, rfl, rfl, rfl, rfl, trivial⟩ ?_
        exact Post.join p1 ⟨rfl, rfl, rfl, rfl, rfl, trivial⟩ ⟨pw, bel.call hf7 hh0, hMs _ _ _ _ _ hM pwo hf7, hinv⟩
      · obtain rfl : i = 0 := by omega
        refine Cd.skip ?_
        refine Post.join pi ⟨rfl, rfl, rfl, rfl, rfl, trivial⟩ ⟨pw, bel, hM, ?_⟩
        rw [hinv, partsP_cons, decide_eq_true rfl, if_pos rfl]
        simp only [Rs.bind_assoc, Rs.bind_ok]
    clear bel pw hM hinv
    rintro pj wj ⟨pw, bel, hM, hinv⟩
    have hsj := bel.size
    have hne1 : one pj (d + 1) ≠ .out := Rs.bind_ne (by rw [← hinv]; exact hne0)
    have hcall := hone i f cp one hfc ho xs wj pj hxl pw (by omega) hM hne1
    refine Cd.region ?_
    refine Seq.val (Runs.move rfl rfl) rfl rfl rfl ?_
    rcases Rs.ok_or hne1 with ⟨p1, o1, hr1⟩ | ⟨x, p1, hr1⟩
    · rw [hr1] at hcall hinv
      refine Seq.callB (Enters.value (first := []) (cap := cp) rfl rfl rfl (heg i f cp hfc)) rfl hcall ?_
      rintro e w7 ⟨hf, rfl, d6, hp6⟩
      refine ⟨_, rfl, fun a ha => ⟨ha.defers, ?_⟩⟩
      rw [hRu, hinv]
      exact ⟨bel.trans hf, rfl, d6, hp6⟩
    rw [hr1] at hcall hinv
    refine Seq.call (Enters.value (first := []) (cap := cp) rfl rfl rfl (heg i f cp hfc)) rfl rfl rfl hcall ?_
    rintro e w7 ⟨hf7, v7, rfl, pw, hM⟩
    refine ⟨_, rfl, ?_⟩
    refine Seq.nil ?_
    refine Post.weak (F' := [(0, _), (5, _), (10, _), (11, _), (12, _)]) ⟨rfl, rfl, rfl, rfl, rfl, trivial⟩ ?_
    refine Post.block_normal ?_
    refine Post.then_ ?_
    refine Cd.region ?_
    refine Seq.val (Runs.addI rfl rfl rfl (by omega) (by omega)) rfl rfl rfl ?_
    refine Seq.val (Runs.move rfl rfl) rfl rfl rfl ?_
    refine Seq.nil ?_
    refine Post.weak (F' := [(0, _), (5, _), (10, _), (11, _), (12, _)]) ⟨rfl, rfl, rfl, rfl, rfl, trivial⟩ ?_
    refine Post.round (i + 1, p1, xs ++ [x]) ⟨rfl, rfl, rfl, rfl, trivial⟩ ⟨by dsimp only; omega, pw, bel.trans hf7, hM, by dsimp only; rw [List.length_append, hxl]; rfl, ?_⟩ (by dsimp only; omega)
    dsimp only
    rw [hinv, decide_eq_false (show ¬ i + 1 = 0 by omega), Rs.bind_ok]
    simp only [List.append_assoc, List.cons_append, List.nil_append]
  · obtain rfl : i = ones.length := by omega
    rw [List.drop_of_length_le (Nat.le_refl _)] at hinv
    have hinv : R0 = .ok xs pi := by rw [hinv]; unfold partsP; rw [Rs.bind_ok, List.append_nil]
    rw [hinv] at hRu
    replace hRu : R = (signQ K.ws [41] pi).bind fun _ p => .ok xs p := hRu
    have hsg := signQ_any K hK pi (d + 1) [41] wr pw (by decide)
    have pwo := pw
    refine Cd.exit ?_
    refine Post.then_exit ?_
    refine Post.round_exit ?_
    refine Post.block_exit ?_
    refine Post.then_ ?_
    refine Cd.seq ?_
    refine Cd.region ?_
    refine Seq.val (Runs.move rfl rfl) rfl rfl rfl ?_
    rcases Rs.ok_or (signQ_ne K.ws [41] pi) with ⟨p1, o1, hr1⟩ | ⟨u1, p1, hr1⟩
    · rw [hr1] at hsg hRu
      refine Seq.callB (Enters.func rfl rfl rfl (run_enter Try.func148 (by kernel_rfl) rfl)) rfl hsg ?_
      rintro e w7 ⟨hf, rfl, d6, hp6⟩
      refine ⟨_, rfl, fun a ha => ⟨ha.defers, ?_⟩⟩
      rw [hRu]
      exact ⟨bel.call hf hh0, rfl, d6, hp6⟩
    rw [hr1] at hsg hRu
    refine Seq.call (Enters.func rfl rfl rfl (run_enter Try.func148 (by kernel_rfl) rfl)) rfl rfl rfl (hsg) ?_
    rintro e w7 ⟨hf7, v7, rfl, pw, -⟩
    refine ⟨_, rfl, ?_⟩
    replace bel := bel.call hf7 hh0
    have hM := hMs _ _ _ _ _ hM pwo hf7
    have k99 := pw.blk
    have hd64 := pw.deep
    have loc := Fz.refl w7.heap.size K.g w7
    refine Seq.nil ?_
    refine Post.weak (F' := [(0, _), (10, _), (11, _), (12, _), (13, _)]) ⟨rfl, rfl, rfl, rfl, rfl, trivial⟩ ?_
    refine Post.then_ ?_
    refine Cd.region ?_
    refine Seq.val (Runs.move rfl rfl) rfl rfl rfl ?_
    refine Seq.val (Runs.nilCheck rfl rfl) rfl rfl rfl ?_
    refine Seq.val (Runs.fieldB 2 rfl rfl Try.underlying141 rfl (by kernel_rfl)) rfl rfl rfl ?_
    refine Seq.val (Runs.loadB rfl rfl Try.underlying3 rfl k99 rfl) rfl rfl rfl ?_
    refine Seq.val (Runs.subI rfl rfl rfl (by omega) (by omega)) rfl rfl rfl ?_
    refine Seq.val (Runs.nilCheck rfl rfl) rfl rfl rfl ?_
    refine Seq.val (Runs.fieldB 2 rfl rfl Try.underlying141 rfl (by kernel_rfl)) rfl rfl rfl ?_
    refine Seq.store1 rfl rfl rfl (by kernel_rfl) rfl rfl k99 rfl rfl rfl ?_
    intro w1 pw1
    replace bel := bel.put k99 pw1 e99
    replace loc := loc.put k99 pw1 e99
    replace k99 := pw1.blk
    refine Seq.nil ?_
    refine Post.weak (F' := [(0, _), (10, _), (11, _), (12, _), (13, _)]) ⟨rfl, rfl, rfl, rfl, rfl, trivial⟩ ?_
    refine Post.end0 rfl (.inr rfl) ?_
    rw [hRu]
    have hcast : ((d + 1 : Nat) : Int) - 1 = (d : Int) := by omega
    rw [hcast] at k99
    exact ⟨bel, _, rfl, ⟨k99, pw.rd.below (loc.below (hK.le_of pw) hle), pw.p_le, .inl (by omega)⟩, hMs _ _ _ _ _ hM pw loc⟩
end Go.Proofs.Ytijaldpmpjapiaa

namespace Go.Proofs.Ytijaldpmpjapiaa
open Go.RowKit
variable [Inhabited (List Deferred)]

theorem look_app (A B : List (Nat × Value)) (t : Nat) : look (A ++ B) t = match look A t with | some v => some v | none => look B t := by
  induction A with
  | nil => rfl
  | cons x r ih =>
    obtain ⟨k, v⟩ := x
    show (bif Nat.beq k t then some v else look (r ++ B) t) = match (bif Nat.beq k t then some v else look r t) with | some v => some v | none => look B t
    cases Nat.beq k t with
    | true => rfl
    | false => exact ih
/-- The slots of some operations. -/
def slotsF (S : Nat → Bool) : Nat → List Oper → List Value → List (Nat × Value)
  | k, o :: r, v :: vs => match o.dst with
    | some d => bif S k then (d, v) :: slotsF S (k + 1) r vs else slotsF S (k + 1) r vs
    | none => slotsF S (k + 1) r vs
  | _, _, _ => []
theorem slotsF_look {S : Nat → Bool} : ∀ {l : List Oper} {vs : List Value} {k t : Nat} {v : Value}, look (slotsF S k l vs) t = some v → ∃ (j : Nat) (o : Oper), l[j]? = some o ∧ o.dst = some t ∧ vs[j]? = some v ∧ S (k + j) = true
  | [], _, _, _, _, h => by simp [slotsF, look] at h
  | _ :: _, [], _, _, _, h => by simp [slotsF, look] at h
  | o :: r, v :: vs, k, t, u, h => by
    unfold slotsF at h
    have up : look (slotsF S (k + 1) r vs) t = some u → ∃ (j : Nat) (o' : Oper), (o :: r)[j]? = some o' ∧ o'.dst = some t ∧ (v :: vs)[j]? = some u ∧ S (k + j) = true := fun h => by
      obtain ⟨j, o', h1, h2, h3, h4⟩ := slotsF_look h
      exact ⟨j + 1, o', by simpa using h1, h2, by simpa using h3, by rw [show k + (j + 1) = k + 1 + j from by omega]; exact h4⟩
    cases hd : o.dst with
    | none => rw [hd] at h; exact up h
    | some d =>
      rw [hd] at h
      simp only at h
      cases hS : S k with
      | false => rw [hS] at h; exact up h
      | true =>
        rw [hS, cond_true] at h
        rcases look_put h with ⟨rfl, rfl⟩ | ⟨_, h⟩
        · exact ⟨0, o, rfl, hd, rfl, hS⟩
        · exact up h
theorem slotsF_mem {S : Nat → Bool} : ∀ {l : List Oper} {vs : List Value} {k j : Nat} {o : Oper} {d : Nat} {v : Value}, l[j]? = some o → o.dst = some d → vs[j]? = some v → S (k + j) = true → (∀ i o', l[i]? = some o' → i ≠ j → o'.dst ≠ some d) → look (slotsF S k l vs) d = some v
  | [], _, _, _, _, _, _, h, _, _, _, _ => by simp at h
  | _ :: _, [], _, _, _, _, _, _, _, h, _, _ => by simp at h
  | o0 :: r, v0 :: vs, k, 0, o, d, v, h1, h2, h3, h4, h5 => by
    simp at h1 h3
    subst h1 h3
    unfold slotsF
    rw [h2]
    simp only
    rw [Nat.add_zero] at h4
    rw [h4, cond_true]
    unfold look
    rw [Nat.beq_refl]
    rfl
  | o0 :: r, v0 :: vs, k, j + 1, o, d, v, h1, h2, h3, h4, h5 => by
    have ih := slotsF_mem (S := S) (l := r) (vs := vs) (k := k + 1) (j := j) (o := o) (d := d) (v := v) (by simpa using h1) h2 (by simpa using h3) (by rw [show k + 1 + j = k + (j + 1) from by omega]; exact h4) (fun i o' hi hne => h5 (i + 1) o' (by simpa using hi) (by omega))
    unfold slotsF
    cases hd : o0.dst with
    | none => exact ih
    | some d0 =>
      simp only
      cases S k with
      | false => exact ih
      | true =>
        have hne : d0 ≠ d := fun e => h5 0 o0 rfl (by omega) (by rw [hd, e])
        rw [cond_true]
        unfold look
        have : Nat.beq d0 d = false := by
          cases hb : Nat.beq d0 d with
          | false => rfl
          | true => exact absurd (Nat.eq_of_beq_eq_true hb) hne
        rw [this, cond_false]
        exact ih
section
variable {P : Program} {Q : Exit → Act → World → Prop} {n : Nat} {F0 : List (Nat × Value)}
/-- What is known ahead of an operation: its predecessors' slots first, all that are done, the frame's. -/
def frameG (l : List Oper) (F0 : List (Nat × Value)) (vs : List Value) (S : Nat → Bool) (o : Oper) : List (Nat × Value) := slotsF (fun k => memB (direct o) k) 0 l vs ++ (F0 ++ slotsF S 0 l vs)
/-- What is to hold behind it. -/
def AfterG {σT : Type} (l : List Oper) (n : Nat) (F0 : List (Nat × Value)) (vs : σT → List Value) (X : σT → (Nat → Bool) → World → Prop) (S : Nat → Bool) (k : Nat) (a : Act) (w : World) : Prop :=
  ∃ σ, Fr n F0 a ∧ (∀ (j : Nat) (o : Oper) (d : Nat) (v : Value), l[j]? = some o → o.dst = some d → updC S k j = true → (vs σ)[j]? = some v → a.tmps[d]? = some v) ∧ X σ (updC S k) w
def DownC (l : List Oper) (S : Nat → Bool) : Prop := ∀ (i : Nat) (o : Oper), l[i]? = some o → S i = true → ∀ x ∈ direct o, S x = true
def StepG {σT : Type} (P : Program) (ops : Array Oper) (Q : Exit → Act → World → Prop) (l : List Oper) (n : Nat) (F0 : List (Nat × Value)) (vs : σT → List Value) (X : σT → (Nat → Bool) → World → Prop) (k : Nat) (o : Oper) : Prop :=
  ∀ (σ : σT) (S : Nat → Bool) (w : World), S k = false → (∀ x ∈ direct o, S x = true) → DownC l S → X σ S w → Seq P ops (Exit.then (AfterG l n F0 vs X S k) Q) [o] n (frameG l F0 (vs σ) S o) w
theorem oper_then {o : Oper} {a : Act} {w : World} {K K' : Act → World → Prop} (h : o.wp P a w K (Exit.then K' Q)) : o.wp P a w K Q := by
  unfold Oper.wp at *
  unfold Oper.upon at *
  split at h <;> exact h
theorem done_slots {l : List Oper} {keys : List Nat} (hchk : chkInit n keys 0 [] l = true) {j : Nat} {o : Oper} {d : Nat} (h : l[j]? = some o) (hd : o.dst = some d) : d < n ∧ d ∉ keys ∧ ∀ i o', l[i]? = some o' → i ≠ j → o'.dst ≠ some d := by
  obtain ⟨-, h2⟩ := chkInit_spec hchk j o h
  obtain ⟨a1, -, a3, a4⟩ := h2 d hd
  exact ⟨a1, a3, a4⟩
theorem Post.afterG {σT : Type} {l : List Oper} {vs : σT → List Value} {X : σT → (Nat → Bool) → World → Prop} {σ σ' : σT} {S : Nat → Bool} {k d : Nat} {o : Oper} {u : Value} {w' : World} (hchk : chkInit n (keysOf F0) 0 [] l = true) (ho : l[k]? = some o) (hd : o.dst = some d) (hpre : ∀ x ∈ direct o, S x = true) (hu : (vs σ')[k]? = some u) (hj : ∀ j, S j = true → (vs σ')[j]? = (vs σ)[j]?) (hX : X σ' (updC S k) w') :
    Post (Exit.then (AfterG l n F0 vs X S k) Q) .normal n ((d, u) :: frameG l F0 (vs σ) S o) w' := by
  intro a ha
  obtain ⟨b1, b2, b3⟩ := done_slots hchk ho hd
  have hF : ∀ t v, look F0 t = some v → a.tmps[t]? = some v := fun t v ht => by
    have hk := look_keys ht
    have hnone : ∀ S', look (slotsF S' 0 l (vs σ)) t = none := fun S' => by
      cases hl : look (slotsF S' 0 l (vs σ)) t with
      | none => rfl
      | some x =>
        obtain ⟨j, o', h1, h2, -, -⟩ := slotsF_look hl
        exact absurd hk (done_slots hchk h1 h2).2.1
    refine ha.slot t v ?_
    unfold look
    cases hb : Nat.beq d t with
    | true => rw [Nat.eq_of_beq_eq_true hb] at b2; exact absurd hk b2
    | false =>
      rw [cond_false]
      unfold frameG
      rw [look_app, hnone]
      simp only
      rw [look_app, ht]
  refine ⟨σ', ⟨ha.size, ha.defers, hF⟩, fun j o' d' v h1 h2 h3 h4 => ?_, hX⟩
  by_cases hjk : j = k
  · subst hjk
    rw [ho] at h1
    injection h1 with h1
    subst h1
    rw [hd] at h2
    injection h2 with h2
    subst h2
    rw [hu] at h4
    injection h4 with h4
    subst h4
    exact ha.slot d u (by unfold look; rw [Nat.beq_refl]; rfl)
  · have hS : S j = true := by unfold updC at h3; rwa [if_neg hjk] at h3
    have hv : (vs σ)[j]? = some v := by rw [← hj j hS]; exact h4
    obtain ⟨c1, c2, c3⟩ := done_slots hchk h1 h2
    refine ha.slot d' v ?_
    have hne : d ≠ d' := fun e => b3 j o' h1 hjk (by rw [h2, e])
    unfold look
    have hb : Nat.beq d d' = false := by
      cases hb : Nat.beq d d' with
      | false => rfl
      | true => exact absurd (Nat.eq_of_beq_eq_true hb) hne
    rw [hb, cond_false]
    unfold frameG
    rw [look_app]
    have h0 : look (slotsF S 0 l (vs σ)) d' = some v := slotsF_mem h1 h2 hv (by rw [Nat.zero_add]; exact hS) c3
    cases hl : look (slotsF (fun k => memB (direct o) k) 0 l (vs σ)) d' with
    | none =>
      simp only
      rw [look_app]
      cases hf : look F0 d' with
      | none => simp only; exact h0
      | some y => exact absurd (look_keys hf) c2
    | some x =>
      obtain ⟨i, oi, e1, e2, e3, -⟩ := slotsF_look hl
      have : i = j := by
        by_cases hij : i = j
        · exact hij
        · exact absurd e2 (c3 i oi e1 hij)
      subst this
      rw [hv] at e3
      exact e3.symm
theorem Post.afterG0 {σT : Type} {l : List Oper} {vs : σT → List Value} {X : σT → (Nat → Bool) → World → Prop} {σ σ' : σT} {S : Nat → Bool} {k : Nat} {o : Oper} {w' : World} (hchk : chkInit n (keysOf F0) 0 [] l = true) (ho : l[k]? = some o) (hd : o.dst = none) (hj : ∀ j, S j = true → (vs σ')[j]? = (vs σ)[j]?) (hX : X σ' (updC S k) w') :
    Post (Exit.then (AfterG l n F0 vs X S k) Q) .normal n (frameG l F0 (vs σ) S o) w' := by
  intro a ha
  have hF : ∀ t v, look F0 t = some v → a.tmps[t]? = some v := fun t v ht => by
    have hk := look_keys ht
    have hnone : ∀ S', look (slotsF S' 0 l (vs σ)) t = none := fun S' => by
      cases hl : look (slotsF S' 0 l (vs σ)) t with
      | none => rfl
      | some x =>
        obtain ⟨j, o', h1, h2, -, -⟩ := slotsF_look hl
        exact absurd hk (done_slots hchk h1 h2).2.1
    refine ha.slot t v ?_
    unfold frameG
    rw [look_app, hnone]
    simp only
    rw [look_app, ht]
  refine ⟨σ', ⟨ha.size, ha.defers, hF⟩, fun j o' d' v h1 h2 h3 h4 => ?_, hX⟩
  have hjk : j ≠ k := fun e => by
    subst e
    rw [ho] at h1
    injection h1 with h1
    subst h1
    rw [hd] at h2
    cases h2
  have hS : S j = true := by unfold updC at h3; rwa [if_neg hjk] at h3
  have hv : (vs σ)[j]? = some v := by rw [← hj j hS]; exact h4
  obtain ⟨c1, c2, c3⟩ := done_slots hchk h1 h2
  refine ha.slot d' v ?_
  unfold frameG
  rw [look_app]
  have h0 : look (slotsF S 0 l (vs σ)) d' = some v := slotsF_mem h1 h2 hv (by rw [Nat.zero_add]; exact hS) c3
  cases hl : look (slotsF (fun k => memB (direct o) k) 0 l (vs σ)) d' with
  | none =>
    simp only
    rw [look_app]
    cases hf : look F0 d' with
    | none => simp only; exact h0
    | some y => exact absurd (look_keys hf) c2
  | some x =>
    obtain ⟨i, oi, e1, e2, e3, -⟩ := slotsF_look hl
    have : i = j := by
      by_cases hij : i = j
      · exact hij
      · exact absurd e2 (c3 i oi e1 hij)
    subst this
    rw [hv] at e3
    exact e3.symm
/-- All slots, at the end. -/
def allF : List Oper → List Value → List (Nat × Value) → List (Nat × Value)
  | o :: r, v :: vs, F => match o.dst with
    | some d => (d, v) :: allF r vs F
    | none => allF r vs F
  | _, _, F => F
theorem allF_look : ∀ {l : List Oper} {vs : List Value} {F : List (Nat × Value)} {t : Nat} {v : Value}, look (allF l vs F) t = some v → (∃ (j : Nat) (o : Oper), l[j]? = some o ∧ o.dst = some t ∧ vs[j]? = some v) ∨ look F t = some v
  | [], _, _, _, _, h => .inr h
  | _ :: _, [], _, _, _, h => .inr h
  | o :: r, u :: vs, F, t, v, h => by
    have up : look (allF r vs F) t = some v → (∃ (j : Nat) (o' : Oper), (o :: r)[j]? = some o' ∧ o'.dst = some t ∧ (u :: vs)[j]? = some v) ∨ look F t = some v := fun h => by
      rcases allF_look h with ⟨j, o', h1, h2, h3⟩ | h
      · exact .inl ⟨j + 1, o', by simpa using h1, h2, by simpa using h3⟩
      · exact .inr h
    unfold allF at h
    cases hd : o.dst with
    | none => rw [hd] at h; exact up h
    | some d =>
      rw [hd] at h
      simp only at h
      rcases look_put h with ⟨rfl, rfl⟩ | ⟨_, h⟩
      · exact .inl ⟨0, o, rfl, hd, rfl⟩
      · exact up h
theorem rep_getD (m i : Nat) : (Array.replicate m false).getD i false = false := by by_cases h : i < m <;> simp [h]
def inAll (ds : List Nat) : Nat → Bool
  | 0 => true
  | k + 1 => memB ds k && inAll ds k
theorem inAll_spec {ds : List Nat} : ∀ {m : Nat}, inAll ds m = true → ∀ i, i < m → i ∈ ds
  | 0, _, i, hi => by omega
  | m + 1, h, i, hi => by
    unfold inAll at h
    simp only [Bool.and_eq_true] at h
    rcases Nat.lt_or_ge i m with h1 | h1
    · exact inAll_spec h.2 i h1
    · obtain rfl : i = m := by omega
      exact memB_spec h.1
/-- The operations behind wait for all ahead of them, one by one. -/
def chkRest (m : Nat) : List Oper → Bool
  | [] => true
  | o :: r => inAll (direct o) m && ltAll m (direct o) && chkTail (m + 1) r
/-- A region that draws its order, whatever is known of the world by which operations are done; those behind come one by one. -/
theorem Cd.drawG {σT : Type} (m : Nat) {id : Nat} {l : List Oper} {w : World} (hm : P.follows .mixedOrders = true) (hchk : chkInit n (keysOf F0) 0 [] (l.take m) = true) (hrest : chkRest (l.take m).length (l.drop m) = true) (vs : σT → List Value) (X : σT → (Nat → Bool) → World → Prop) (σ0 : σT)
    (h0 : ∀ w0, Below w.heap.size w w0 → w0.heap.size = w.heap.size → X σ0 (fun _ => false) w0)
    (hstep : ∀ (k : Nat) (o : Oper), (l.take m)[k]? = some o → StepG P l.toArray Q (l.take m) n F0 vs X k o)
    (hfin : ∀ (σ : σT) (S : Nat → Bool) (w : World), (∀ i, i < (l.take m).length → S i = true) → X σ S w → Seq P l.toArray Q (l.drop m) n (allF (l.take m) (vs σ) F0) w) : Cd P (.region id l.toArray true) Q n F0 w := by
  have hops : l.toArray = (l.take m ++ l.drop m).toArray := by rw [List.take_append_drop]
  revert hchk hrest hstep hfin
  generalize l.take m = init at *
  generalize l.drop m = tail at *
  intro hchk hrest hstep hfin
  generalize l.toArray = ops at *
  intro a ha
  refine wp_region_any hm ?_
  have hw0 := h0 { w with drawn := w.drawn + 1 } ⟨rfl, rfl, rfl, Nat.le_refl _, fun _ _ => rfl⟩ rfl
  have c1 := chkInit_spec hchk
  have hsz : ops.size = init.length + tail.length := by rw [hops]; simp
  have hat : ∀ i, i < init.length → ops[i]? = init[i]? := fun i hi => by rw [hops]; simp [List.getElem?_append_left hi]
  have hat2 : ∀ r, ops[init.length + r]? = tail[r]? := fun r => by rw [hops]; simp [List.getElem?_append_right]
  have t0 : ∀ o, tail[0]? = some o → (∀ x ∈ direct o, x < init.length) ∧ ∀ i, i < init.length → i ∈ direct o := by
    intro o ho
    cases tail with
    | nil => simp at ho
    | cons o1 r =>
      obtain rfl : o1 = o := by simpa using ho
      unfold chkRest at hrest
      simp only [Bool.and_eq_true] at hrest
      exact ⟨ltAll_spec hrest.1.2, inAll_spec hrest.1.1⟩
  have ts : ∀ i o, tail[i + 1]? = some o → (∀ x ∈ direct o, x < init.length + 1 + i) ∧ init.length + 1 + i - 1 ∈ direct o := by
    intro i o ho
    cases tail with
    | nil => simp at ho
    | cons o1 r =>
      unfold chkRest at hrest
      simp only [Bool.and_eq_true] at hrest
      exact chkTail_spec hrest.2 i o (by simpa using ho)
  have key : ∀ (fuel : Nat) (listed : Array Bool) (σ : σT) (a : Act) (w : World), listed.size = ops.size → DownC init (fun j => listed.getD j false) → (∀ i, init.length ≤ i → i < ops.size → listed.getD i true = false) → Fr n F0 a → (∀ (j : Nat) (o : Oper) (d : Nat) (v : Value), init[j]? = some o → o.dst = some d → listed.getD j false = true → (vs σ)[j]? = some v → a.tmps[d]? = some v) → X σ (fun j => listed.getD j false) w → left listed ops.size ≤ fuel → wpAny P .any ops Q fuel listed a w := by
    have fin : ∀ (fuel : Nat) (listed : Array Bool) (σ : σT) (a : Act) (w : World), listed.size = ops.size → (∀ i, i < init.length → listed.getD i true = true) → (∀ i, init.length ≤ i → i < ops.size → listed.getD i true = false) → Fr n F0 a → (∀ (j : Nat) (o : Oper) (d : Nat) (v : Value), init[j]? = some o → o.dst = some d → listed.getD j false = true → (vs σ)[j]? = some v → a.tmps[d]? = some v) → X σ (fun j => listed.getD j false) w → left listed ops.size ≤ fuel → wpAny P .any ops Q fuel listed a w := by
      intro fuel listed σ a w hl hall hts hF hD hX hf
      have hb : ∀ i, i < init.length → listed.getD i false = true := fun i hi => by
        have h1 := hall i hi
        have h2 : i < listed.size := by omega
        simp [h2] at h1 ⊢
        exact h1
      have hleft : ∀ k, k ≤ ops.size → left listed k = k - init.length := by
        intro k
        induction k with
        | zero => intro _; show 0 = 0 - init.length; omega
        | succ k ihk =>
          intro hk
          unfold left
          rw [ihk (by omega)]
          rcases Nat.lt_or_ge k init.length with h1 | h1
          · rw [if_pos (hall k h1)]; omega
          · rw [if_neg (by rw [hts k h1 (by omega)]; simp)]; omega
      refine phase2 hops (fun o ho => (t0 o ho).1) ts fuel 0 listed a w hl (Nat.zero_le _) (fun i hi => hall i (by omega)) (fun i hi hi2 => hts i (by omega) hi2) (by have := hleft ops.size (Nat.le_refl _); omega) ?_
      rw [List.drop_zero]
      refine hfin σ _ w hb hX a ⟨hF.size, hF.defers, fun t v ht => ?_⟩
      rcases allF_look ht with ⟨j, o, h1, h2, h3⟩ | h
      · exact hD j o t v h1 h2 (hb j (List.getElem?_eq_some_iff.1 h1).1) h3
      · exact hF.slot t v h
    intro fuel
    induction fuel with
    | zero =>
      intro listed σ a w hl hdc hts hF hD hX hf
      have hall := left_zero (Nat.le_zero.1 hf)
      exact fin 0 listed σ a w hl (fun i hi => hall i (by omega)) hts hF hD hX hf
    | succ fuel ih =>
      intro listed σ a w hl hdc hts hF hD hX hf
      by_cases hdone : ∀ i, i < init.length → listed.getD i true = true
      · exact fin _ listed σ a w hl hdone hts hF hD hX hf
      have hex : ∃ i, i ∈ Region.ready .any ops listed := by
        refine Classical.byContradiction fun hno => hdone ?_
        have this : ∀ i, (∀ j, j < i → j < init.length → listed.getD j true = true) → i < init.length → listed.getD i true = true := fun i hlt hi => by
          cases hb : listed.getD i true with
          | true => rfl
          | false =>
            exfalso
            refine hno ⟨i, ready_iff.2 ⟨hb, init[i], by rw [hat i hi, List.getElem?_eq_getElem hi], fun x hx => ?_⟩⟩
            have hxi := (c1 i _ (List.getElem?_eq_getElem hi)).1 x hx
            have h1 := hlt x (by omega) (by omega)
            have h2 : x < listed.size := by omega
            simp [h2] at h1 ⊢
            exact h1
        have all : ∀ m i, i ≤ m → i < init.length → listed.getD i true = true := by
          intro m
          induction m using Nat.strongRecOn with
          | _ m ihm => intro i him hi; exact this i (fun j hj hjl => ihm j (by omega) j (Nat.le_refl _) hjl) hi
        exact fun i hi => all i i (Nat.le_refl _) hi
      refine ⟨fun hnil => (by obtain ⟨i, hi⟩ := hex; rw [hnil] at hi; cases hi), fun i hi => ?_⟩
      · obtain ⟨g1, o, ho, g2⟩ := ready_iff.1 hi
        have hio := (Array.getElem?_eq_some_iff.1 ho).1
        have hil : i < init.length := by
          rcases Nat.lt_or_ge i init.length with h | h
          · exact h
          · exfalso
            obtain ⟨q, rfl⟩ : ∃ q, i = init.length + q := ⟨i - init.length, by omega⟩
            rw [hat2] at ho
            cases q with
            | zero =>
              refine hdone fun j hj => ?_
              have h1 := g2 j ((t0 o ho).2 j hj)
              have h2 : j < listed.size := by omega
              simp [h2] at h1 ⊢
              exact h1
            | succ q =>
              have h1 := g2 _ (ts q o ho).2
              have h2 := hts (init.length + 1 + q - 1) (by omega) (by omega)
              rw [getD_both h2] at h1
              cases h1
        rw [hat i hil] at ho
        have hSi : listed.getD i false = false := getD_both g1
        have hst := hstep i o ho σ (fun j => listed.getD j false) w hSi g2 hdc hX a ⟨hF.size, hF.defers, fun t v ht => by
          unfold frameG at ht
          rw [look_app] at ht
          cases h1 : look (slotsF (fun k => memB (direct o) k) 0 init (vs σ)) t with
          | some x =>
            rw [h1] at ht
            injection ht with ht
            subst ht
            obtain ⟨j, oj, e1, e2, e3, e4⟩ := slotsF_look h1
            rw [Nat.zero_add] at e4
            exact hD j oj t x e1 e2 (g2 j (memB_spec e4)) e3
          | none =>
            rw [h1] at ht
            simp only at ht
            rw [look_app] at ht
            cases h2 : look F0 t with
            | some x =>
              rw [h2] at ht
              injection ht with ht
              subst ht
              exact hF.slot t x h2
            | none =>
              rw [h2] at ht
              simp only at ht
              obtain ⟨j, oj, e1, e2, e3, e4⟩ := slotsF_look ht
              rw [Nat.zero_add] at e4
              exact hD j oj t v e1 e2 e4 e3⟩
        have hupd : (fun j => (listed.setIfInBounds i true).getD j false) = updC (fun j => listed.getD j false) i := by
          funext j
          unfold updC
          by_cases e : i = j
          · subst e; simp [getD_set_self false (show i < listed.size by omega)]
          · rw [getD_set_ne false e, if_neg (fun h => e h.symm)]
        have next : ∀ a' w', AfterG init n F0 vs X (fun j => listed.getD j false) i a' w' → wpAny P .any ops Q fuel (listed.setIfInBounds i true) a' w' := by
          rintro a' w' ⟨σ', h1, h2, h3⟩
          rw [← hupd] at h3
          refine ih _ σ' a' w' (by simp [hl]) ?_ (fun j h4 h5 => by rw [getD_set_ne true (by omega)]; exact hts j h4 h5) h1 (fun j oj d v e1 e2 e3 e4 => h2 j oj d v e1 e2 (by rw [← hupd]; exact e3) e4) h3 ?_
          · intro i2 o2 e1 e2 x hx
            simp only at e2 ⊢
            by_cases e : i = i2
            · subst e
              rw [ho] at e1
              injection e1 with e1
              subst e1
              exact getD_set_true (g2 x hx)
            · rw [getD_set_ne false e] at e2
              exact getD_set_true (hdc i2 o2 e1 e2 x hx)
          · have := left_set (listed := listed) (i := i) (by omega) g1 ops.size
            rw [if_pos hio] at this
            omega
        unfold wpOp
        rw [hat i hil, ho]
        simp only
        unfold wpList at hst
        by_cases hwant : Region.wanted o (yielded ops a.tmps) = true
        · rw [if_pos hwant] at hst ⊢
          rcases hst with hst | ⟨h1, h2⟩
          · exact .inl (Oper.wp_mono next (oper_then (Oper.wp_mono (fun a' w' h => h) hst)))
          · exact .inr ⟨h1, h2⟩
        · rw [if_neg hwant] at hst ⊢
          exact next _ _ hst
  refine key ops.size _ σ0 a _ (by simp) (fun i o _ h => ?_) (fun i _ h => by simp [h]) ha (fun j o d v _ _ h _ => ?_) ?_ ?_
  · simp only [rep_getD] at h; cases h
  · rw [rep_getD] at h; cases h
  · have hrep : (fun j => (Array.replicate ops.size false).getD j false) = fun _ => false := funext fun i => rep_getD _ i
    rw [hrep]
    exact hw0
  · have : ∀ k, left (Array.replicate ops.size false) k ≤ k := by
      intro k
      induction k with
      | zero => exact Nat.le_refl _
      | succ k ih => unfold left; split <;> omega
    exact this _
end
end Go.Proofs.Ytijaldpmpjapiaa

namespace Go.Proofs.Ytijaldpmpjapiaa
open Go.RowKit

/-- What stays, by the types of blocks. -/
structure Kp (w w' : World) : Prop where
  size : w.heap.size ≤ w'.heap.size
  keep : ∀ k t cs, Blk w k t cs → t ≠ 57 → t ≠ 35 → t ≠ 141 → Blk w' k t cs
section
variable {w w' w'' : World}
theorem Kp.refl (w : World) : Kp w w := ⟨Nat.le_refl _, fun _ _ _ h _ _ _ => h⟩
theorem Kp.trans (a : Kp w w') (b : Kp w' w'') : Kp w w'' := ⟨Nat.le_trans a.size b.size, fun k t cs h h1 h2 h3 => b.keep k t cs (a.keep k t cs h h1 h2 h3) h1 h2 h3⟩
theorem Kp.step (a : Kp w w') (b : Below w'.heap.size w' w'') : Kp w w'' := a.trans ⟨b.size, fun _ _ _ h _ _ _ => h.step b⟩
theorem Kp.fz {g : Nat} {cs : Array Value} (a : Kp w w') (k : Blk w' g 141 cs) (b : Fz w'.heap.size g w' w'') : Kp w w'' := a.trans ⟨b.size, fun i t cs h _ _ h3 => h.fz b fun e => h3 (by
  subst e
  have h1 : w'.heap[i]? = _ := h
  have h2 : w'.heap[i]? = _ := k
  rw [h1] at h2
  injection h2 with h2
  injection h2)⟩
theorem Kp.put {g : Nat} {E : Prop} {T : TypeId} {cur cs : Array Value} (a : Kp w w') (k : Blk w' g T cur) (p : Put w' w'' g T cs) (_e : E) (hT : (T = 57 ∨ T = 35 ∨ T = 141) ∨ w.heap.size ≤ g := by first | exact .inl (by decide) | exact .inr (by omega)) : Kp w w'' := by
  refine ⟨Nat.le_trans a.size (Nat.le_of_eq p.size.symm), fun i t cs h h1 h2 h3 => ?_⟩
  rcases hT with hT | hg
  · exact (a.keep i t cs h h1 h2 h3).put p ((a.keep i t cs h h1 h2 h3).ne k (by rcases hT with rfl | rfl | rfl <;> assumption))
  · exact (a.keep i t cs h h1 h2 h3).put p (by have := h.lt; omega)
theorem Kp.app {B n size : Nat} {e : TypeId} {v : Value} {xs : List Value} (a : Kp w w') (o : Own w' B e size v n xs) (ha : App w' w'' B v) (hT : e = 57 ∨ e = 35 := by decide) : Kp w w'' :=
  a.trans ⟨ha.below.size, fun i t cs h h1 h2 _ => h.grown ha.grown (fun e' => own_blk_ne o.row h (by rcases hT with rfl | rfl <;> exact fun e => by first | exact h1 e.symm | exact h2 e.symm) e'.symm)⟩
end
theorem Kp.blk {w w' : World} {k : Nat} {t : TypeId} {cs : Array Value} (a : Kp w w') (h : Blk w k t cs) (h1 : t ≠ 57 := by decide) (h2 : t ≠ 35 := by decide) (h3 : t ≠ 141 := by decide) : Blk w' k t cs := a.keep k t cs h h1 h2 h3
/-- Parts in memory: expressions and terms in slices of the call's own, what they are made of elsewhere. -/
structure ArgQ (W : World) (h gt : Nat) (es : List Ex) (ts : List Tm) (evs tvs : List Value) (vE vT : Value) (S : Nat → Prop) : Prop where
  lenE : evs.length = es.length
  lenT : tvs.length = ts.length
  ownE : Own W h 35 4 vE es.length (flatC evs)
  ownT : Own W h 57 4 vT ts.length (flatC tvs)
  repE : ∀ (i : Nat) (e : Ex) (v : Value), es[i]? = some e → evs[i]? = some v → RepE W S e v
  repT : ∀ (i : Nat) (t : Tm) (v : Value), ts[i]? = some t → tvs[i]? = some v → RepT W S t v
  away : ∀ b, S b → h ≤ b ∧ b < W.heap.size ∧ b ≠ gt ∧ vE.ownBlock ≠ some b ∧ vT.ownBlock ≠ some b
  neE : vE.ownBlock ≠ some gt
  neT : vT.ownBlock ≠ some gt
section
variable {W W' : World} {h gt g : Nat} {es : List Ex} {ts : List Tm} {evs tvs : List Value} {vE vT : Value} {S : Nat → Prop}
theorem Own.keepRow {B n size : Nat} {e : TypeId} {v : Value} {xs : List Value} (o : Own W B e size v n xs) (hs : W.heap.size ≤ W'.heap.size) (hb : ∀ b, v.ownBlock = some b → W'.heap[b]? = W.heap[b]?) : Own W' B e size v n xs := by
  obtain ⟨h1, ⟨h2, h3⟩ | ⟨g, cap, cur, rfl, e2, e3, e4⟩⟩ := o.row
  · exact ⟨h1, .inl ⟨h2, h3⟩⟩
  · exact ⟨h1, .inr ⟨g, cap, cur, rfl, e2, (hb g rfl).trans e3, e4⟩⟩
theorem ArgQ.keep (a : ArgQ W h gt es ts evs tvs vE vT S) (hs : W.heap.size ≤ W'.heap.size) (hb : ∀ b, h ≤ b → b < W.heap.size → b ≠ gt → W'.heap[b]? = W.heap[b]?) : ArgQ W' h gt es ts evs tvs vE vT S := by
  have hS : ∀ p : Addr, S p.block → W'.cell? p = W.cell? p := fun p hp => by
    obtain ⟨b1, b2, b3, -, -⟩ := a.away _ hp
    exact World.cell?_of_block (hb _ b1 b2 b3)
  refine ⟨a.lenE, a.lenT, a.ownE.keepRow hs fun b e => ?_, a.ownT.keepRow hs fun b e => ?_, fun i e v h1 h2 => (a.repE i e v h1 h2).mono (fun _ h => h) hS, fun i e v h1 h2 => (a.repT i e v h1 h2).mono (fun _ h => h) hS, fun b hb => ?_, a.neE, a.neT⟩
  · obtain ⟨h1, h2⟩ := a.ownE.blockLt b e
    exact hb b h1 h2 fun e' => a.neE (by rw [e, e'])
  · obtain ⟨h1, h2⟩ := a.ownT.blockLt b e
    exact hb b h1 h2 fun e' => a.neT (by rw [e, e'])
  · obtain ⟨b1, b2, b3, b4, b5⟩ := a.away b hb
    exact ⟨b1, by omega, b3, b4, b5⟩
theorem ArgQ.fz (a : ArgQ W h gt es ts evs tvs vE vT S) (f : Fz W.heap.size g W W') (hg : g < h) : ArgQ W' h gt es ts evs tvs vE vT S := a.keep f.size fun b h1 h2 _ => f.block b h2 (by omega)
theorem ArgQ.step (a : ArgQ W h gt es ts evs tvs vE vT S) (f : Below W.heap.size W W') : ArgQ W' h gt es ts evs tvs vE vT S := a.keep f.size fun b _ h2 _ => f.block b h2
theorem ArgQ.put {T : TypeId} {cur cs : Array Value} {B : Nat} (a : ArgQ W h gt es ts evs tvs vE vT S) (_k : Blk W gt T cur) (p : Put W W' gt T cs) (_e : B ≤ gt) : ArgQ W' h gt es ts evs tvs vE vT S := a.keep (Nat.le_of_eq p.size.symm) fun b _ h2 h3 => p.grown.block b h2 fun e => h3 (by injection e)
end
/-- The last of a slice of the call's own is set. -/
theorem Own.setLast {w : World} {B s n : Nat} {e : TypeId} {v : Value} {xs ys : List Value} (o : Own w B e s v (n + 1) (xs ++ ys)) (hl : xs.length = n * s) : ∃ g cap cur, v = .slice (some ⟨g, 0, none⟩) (n + 1) cap ∧ B ≤ g ∧ g < w.heap.size ∧ Blk w g e cur ∧ n * s + s ≤ cur.size ∧
    ∀ (w' : World) (cs : Array Value), cs.size = s → Put w w' g e (cur.toList.take (n * s) ++ (cs.toList ++ cur.toList.drop (n * s + cs.size))).toArray → Own w' B e s v (n + 1) (xs ++ cs.toList) := by
  obtain ⟨h1, ⟨-, h3⟩ | ⟨g, cap, cur, rfl, e2, e3, e4, e5, e6, e7⟩⟩ := o.row
  · omega
  · have hk : Blk w g e cur := e3
    have hm : (n + 1) * s ≤ cap * s := Nat.mul_le_mul_right s e4
    have hns : (n + 1) * s = n * s + s := Nat.succ_mul n s
    refine ⟨g, cap, cur, rfl, e2, hk.lt, hk, by omega, fun w' cs hcs p => ⟨?_, .inr ⟨g, cap, _, rfl, e2, p.blk, e4, e5, ?_, ?_⟩⟩⟩
    · have : cs.toList.length = s := by simpa using hcs
      rw [List.length_append, hl, this, hns]
    · have h9 : cur.toList.length = cap * s := by simpa using e6
      have : cs.toList.length = s := by simpa using hcs
      simp only [List.size_toArray, List.length_append, List.length_take, List.length_drop, this, h9, hcs]
      omega
    · have h9 : cur.toList.length = cap * s := by simpa using e6
      have h10 : cs.toList.length = s := by simpa using hcs
      have htk : cur.toList.take (n * s) = xs := by
        have := congrArg (List.take (n * s)) e7
        rw [List.take_take, Nat.min_eq_left (by omega), ← hl, List.take_left'  rfl] at this
        rw [← hl]
        exact this
      rw [htk, ← List.append_assoc, hns, List.take_left' (by rw [List.length_append, hl, h10])]
theorem Own.two {W : World} {B B' n m s s' : Nat} {e e' : TypeId} {v u : Value} {xs ys : List Value} (o : Own W B e s v n xs) (o' : Own W B' e' s' u m ys) (hne : e ≠ e') : Two v u := fun b h1 h2 => by
  obtain ⟨-, ⟨rfl, -⟩ | ⟨g, cap, cur, rfl, -, e3, -⟩⟩ := o.row
  · cases h1
  obtain ⟨-, ⟨rfl, -⟩ | ⟨g', cap', cur', rfl, -, e3', -⟩⟩ := o'.row
  · cases h2
  injection h1 with h1
  injection h2 with h2
  have h1 : g = b := h1
  have h2 : g' = b := h2
  subst h1
  subst h2
  rw [e3] at e3'
  injection e3' with e3'
  injection e3' with _ e3'
  exact hne e3'
/-- What is added to the expressions. -/
theorem ArgQ.addE {W W' : World} {h gt : Nat} {es : List Ex} {ts : List Tm} {evs tvs : List Value} {vE vT vE' : Value} {S S' : Nat → Prop} (a : ArgQ W h gt es ts evs tvs vE vT S) {x : Ex} {v : Value} (hr : RepE W S' x v) (hS' : ∀ b, S' b → h ≤ b ∧ b < W.heap.size ∧ b ≠ gt ∧ vE.ownBlock ≠ some b ∧ vT.ownBlock ≠ some b)
    (o : Own W' h 35 4 vE' (es.length + 1) (flatC evs ++ v.cells.toList)) (hs : W.heap.size ≤ W'.heap.size) (hb : ∀ b, h ≤ b → b < W.heap.size → b ≠ gt → vE.ownBlock ≠ some b → W'.heap[b]? = W.heap[b]?) (hv' : vE'.ownBlock = vE.ownBlock ∨ ∃ N, vE'.ownBlock = some N ∧ W.heap.size ≤ N) (hgt : gt < W.heap.size) :
    ArgQ W' h gt (es ++ [x]) ts (evs ++ [v]) tvs vE' vT (fun b => S b ∨ S' b) := by
  have htwo : Two vE vT := a.ownE.two a.ownT (by decide)
  have hS : ∀ b, (S b ∨ S' b) → h ≤ b ∧ b < W.heap.size ∧ b ≠ gt ∧ vE.ownBlock ≠ some b ∧ vT.ownBlock ≠ some b := fun b hb => hb.elim (a.away b) (hS' b)
  have hc : ∀ p : Addr, (S p.block ∨ S' p.block) → W'.cell? p = W.cell? p := fun p hp => by
    obtain ⟨b1, b2, b3, b4, -⟩ := hS _ hp
    exact World.cell?_of_block (hb _ b1 b2 b3 b4)
  have hneE : ∀ b, b < W.heap.size → vE.ownBlock ≠ some b → vE'.ownBlock ≠ some b := fun b h1 h2 h3 => by
    rcases hv' with e | ⟨N, e, hN⟩
    · exact h2 (by rw [← e, h3])
    · rw [e] at h3; injection h3 with h3; omega
  refine ⟨by simp [a.lenE], a.lenT, ?_, a.ownT.keepRow hs fun b e => ?_, fun i e u h1 h2 => ?_, fun i t u h1 h2 => (a.repT i t u h1 h2).mono (fun _ h => .inl h) (fun p hp => hc p (.inl hp)), fun b hb' => ?_, hneE gt hgt a.neE, a.neT⟩
  · have hf : flatC (evs ++ [v]) = flatC evs ++ v.cells.toList := by rw [flatC_append]; simp [flatC]
    rw [hf, List.length_append]
    exact o
  · obtain ⟨h1, h2⟩ := a.ownT.blockLt b e
    exact hb b h1 h2 (fun e' => a.neT (by rw [e, e'])) (fun e' => htwo b e' e)
  · rcases Nat.lt_or_ge i es.length with hi | hi
    · rw [List.getElem?_append_left hi] at h1
      rw [List.getElem?_append_left (by rw [a.lenE]; exact hi)] at h2
      exact (a.repE i e u h1 h2).mono (fun _ h => .inl h) (fun p hp => hc p (.inl hp))
    · rw [List.getElem?_append_right hi] at h1
      rw [List.getElem?_append_right (by rw [a.lenE]; exact hi), a.lenE] at h2
      have h0 : i - es.length = 0 := by
        have := (List.getElem?_eq_some_iff.1 h1).1
        simp at this
        exact this
      rw [h0] at h1 h2
      injection h1 with h1
      injection h2 with h2
      subst h1 h2
      exact hr.mono (fun _ h => .inr h) (fun p hp => hc p (.inr hp))
  · obtain ⟨b1, b2, b3, b4, b5⟩ := hS b hb'
    exact ⟨b1, by omega, b3, hneE b b2 b4, b5⟩
/-- What is added to the terms. -/
theorem ArgQ.addT {W W' : World} {h gt : Nat} {es : List Ex} {ts : List Tm} {evs tvs : List Value} {vE vT vT' : Value} {S S' : Nat → Prop} (a : ArgQ W h gt es ts evs tvs vE vT S) {x : Tm} {v : Value} (hr : RepT W S' x v) (hS' : ∀ b, S' b → h ≤ b ∧ b < W.heap.size ∧ b ≠ gt ∧ vE.ownBlock ≠ some b ∧ vT.ownBlock ≠ some b)
    (o : Own W' h 57 4 vT' (ts.length + 1) (flatC tvs ++ v.cells.toList)) (hs : W.heap.size ≤ W'.heap.size) (hb : ∀ b, h ≤ b → b < W.heap.size → b ≠ gt → vT.ownBlock ≠ some b → W'.heap[b]? = W.heap[b]?) (hv' : vT'.ownBlock = vT.ownBlock ∨ ∃ N, vT'.ownBlock = some N ∧ W.heap.size ≤ N) (hgt : gt < W.heap.size) :
    ArgQ W' h gt es (ts ++ [x]) evs (tvs ++ [v]) vE vT' (fun b => S b ∨ S' b) := by
  have htwo : Two vE vT := a.ownE.two a.ownT (by decide)
  have hS : ∀ b, (S b ∨ S' b) → h ≤ b ∧ b < W.heap.size ∧ b ≠ gt ∧ vE.ownBlock ≠ some b ∧ vT.ownBlock ≠ some b := fun b hb => hb.elim (a.away b) (hS' b)
  have hc : ∀ p : Addr, (S p.block ∨ S' p.block) → W'.cell? p = W.cell? p := fun p hp => by
    obtain ⟨b1, b2, b3, -, b4⟩ := hS _ hp
    exact World.cell?_of_block (hb _ b1 b2 b3 b4)
  have hneT : ∀ b, b < W.heap.size → vT.ownBlock ≠ some b → vT'.ownBlock ≠ some b := fun b h1 h2 h3 => by
    rcases hv' with e | ⟨N, e, hN⟩
    · exact h2 (by rw [← e, h3])
    · rw [e] at h3; injection h3 with h3; omega
  refine ⟨a.lenE, by simp [a.lenT], a.ownE.keepRow hs fun b e => ?_, ?_, fun i e u h1 h2 => (a.repE i e u h1 h2).mono (fun _ h => .inl h) (fun p hp => hc p (.inl hp)), fun i t u h1 h2 => ?_, fun b hb' => ?_, a.neE, hneT gt hgt a.neT⟩
  · obtain ⟨h1, h2⟩ := a.ownE.blockLt b e
    exact hb b h1 h2 (fun e' => a.neE (by rw [e, e'])) (fun e' => htwo b e e')
  · have hf : flatC (tvs ++ [v]) = flatC tvs ++ v.cells.toList := by rw [flatC_append]; simp [flatC]
    rw [hf, List.length_append]
    exact o
  · rcases Nat.lt_or_ge i ts.length with hi | hi
    · rw [List.getElem?_append_left hi] at h1
      rw [List.getElem?_append_left (by rw [a.lenT]; exact hi)] at h2
      exact (a.repT i t u h1 h2).mono (fun _ h => .inl h) (fun p hp => hc p (.inl hp))
    · rw [List.getElem?_append_right hi] at h1
      rw [List.getElem?_append_right (by rw [a.lenT]; exact hi), a.lenT] at h2
      have h0 : i - ts.length = 0 := by
        have := (List.getElem?_eq_some_iff.1 h1).1
        simp at this
        exact this
      rw [h0] at h1 h2
      injection h1 with h1
      injection h2 with h2
      subst h1 h2
      exact hr.mono (fun _ h => .inr h) (fun p hp => hc p (.inr hp))
  · obtain ⟨b1, b2, b3, b4, b5⟩ := hS b hb'
    exact ⟨b1, by omega, b3, b4, hneT b b2 b5⟩
end Go.Proofs.Ytijaldpmpjapiaa

