/-
  lex.Words: what it answers. Condition: the text is within reach.
-/
import Derived.Test.YtijaldpmpjapiaaLexF
namespace Go.Proofs.Ytijaldpmpjapiaa
open Go.RowKit

/-- A word: its kind, text, number and place. -/
structure Wd where
  kind : Int
  text : List Nat
  n : Int
  pos : Nat
/-- The words from a place on; or where none can stand. -/
def lexW : Nat → List Nat → Nat → List Wd × Option Nat
  | 0, _, _ => ([], none)
  | f + 1, l, p => if l.length ≤ p then ([], none) else match nextW (l.drop p) with
    | none => ([], some p)
    | some (k, t, n) => (⟨k, t, n, p⟩ :: (lexW f l (p + t.length + blankN (l.drop (p + t.length)))).1, (lexW f l (p + t.length + blankN (l.drop (p + t.length)))).2)
def lexAll (l : List Nat) : List Wd × Option Nat := lexW (l.length + 1) l (blankN l)
def wdCells (ws : List Wd) : List Value := ws.flatMap fun x => [.int .i64 x.kind, .string (strOf x.text), .int .i64 x.n, .int .i64 (x.pos : Int)]
theorem wdCells_snoc (ws : List Wd) (x : Wd) : wdCells (ws ++ [x]) = wdCells ws ++ [.int .i64 x.kind, .string (strOf x.text), .int .i64 x.n, .int .i64 (x.pos : Int)] := by simp [wdCells]
theorem lexW_end (f : Nat) (l : List Nat) (p : Nat) (h : l.length ≤ p) : lexW f l p = ([], none) := by
  cases f with
  | zero => rfl
  | succ f => unfold lexW; rw [if_pos h]
theorem lexW_step (f : Nat) (l : List Nat) (p : Nat) (h : p < l.length) : lexW (f + 1) l p = match nextW (l.drop p) with
    | none => ([], some p)
    | some (k, t, n) => (⟨k, t, n, p⟩ :: (lexW f l (p + t.length + blankN (l.drop (p + t.length)))).1, (lexW f l (p + t.length + blankN (l.drop (p + t.length)))).2) := by
  rw [lexW, if_neg (by omega)]
theorem run_pos {l : List Nat} {c : Nat} {r : List Nat} (h : l = c :: r) (hp : partB c = true) : 0 < runN partB l := by rw [h, runN_cons, if_pos hp]; omega
theorem nextW_spec {l : List Nat} {k : Int} {t : List Nat} {n : Int} (h : nextW l = some (k, t, n)) : 0 < t.length ∧ t = l.take t.length ∧ t.length ≤ l.length := by
  cases l with
  | nil => cases h
  | cons c r =>
    have hrl := runN_le partB (c :: r)
    have htk : ∀ j, j ≤ (c :: r).length → 0 < j → 0 < ((c :: r).take j).length ∧ (c :: r).take j = (c :: r).take ((c :: r).take j).length ∧ ((c :: r).take j).length ≤ (c :: r).length := by
      intro j hj h0
      have : ((c :: r).take j).length = j := by rw [List.length_take]; omega
      rw [this]
      exact ⟨h0, rfl, hj⟩
    unfold nextW at h
    simp only at h
    generalize hl : c :: r = l at *
    split at h
    · rename_i hd
      have hp : partB c = true := by unfold partB; rw [hd]; simp
      have h0 := run_pos hl.symm hp
      split at h
      · rename_i hday
        injection h with h
        injection h with h1 h
        injection h with h2 h
        subst h2
        refine htk 10 ?_ (by omega)
        unfold dayOk at hday
        simp at hday
        exact hday.1.1
      · cases ha : amt0 (l.take (runN partB l)) with
        | none => rw [ha] at h; cases h
        | some v =>
          rw [ha] at h
          injection h with h
          injection h with h1 h
          injection h with h2 h
          subst h2
          exact htk _ hrl h0
    · split at h
      · rename_i hd
        have hp : partB c = true := by unfold partB; rw [hd]; simp
        have h0 := run_pos hl.symm hp
        split at h
        · injection h with h
          injection h with h1 h
          injection h with h2 h
          subst h2
          exact htk _ hrl h0
        · cases h
      · cases hs : signW l with
        | none => rw [hs] at h; cases h
        | some s =>
          rw [hs] at h
          injection h with h
          injection h with h1 h
          injection h with h2 h
          subst h2
          have hm := List.mem_of_find?_eq_some hs
          have hp := List.find?_some hs
          simp at hp
          have h0 : 0 < s.length := by
            have : ∀ s ∈ signsL, 0 < s.length := by decide
            exact this s hm
          refine ⟨h0, hp.symm, ?_⟩
          have := congrArg List.length hp
          rw [List.length_take] at this
          omega
/-- A slice of the call's own, whatever is stored elsewhere. -/
structure OwnA (w : World) (B : Nat) (e : TypeId) (size : Nat) (v : Value) (n : Nat) (xs : List Value) : Prop where
  own : Own w B e size v n xs
section
variable {w w' : World} {B size n : Nat} {e : TypeId} {v : Value} {xs : List Value}
theorem OwnA.step (h : OwnA w B e size v n xs) (hb : Below w.heap.size w w') : OwnA w' B e size v n xs := ⟨h.own.step hb⟩
theorem OwnA.put {g B' : Nat} {T : TypeId} {cur cs : Array Value} (h : OwnA w B e size v n xs) (_k : Blk w g T cur) (p : Put w w' g T cs) (_e : B' ≤ g) (hne : v.ownBlock ≠ some g := by assumption) : OwnA w' B e size v n xs := ⟨⟨h.own.row.kept p.grown (.inr hne)⟩⟩
theorem OwnA.ne (h : OwnA w B e size v n xs) {g : Nat} (hg : w.heap.size ≤ g) : v.ownBlock ≠ some g := by
  intro hv
  obtain ⟨hl, ⟨h0, h1⟩ | ⟨g', cap, cur, h0, h1, h2, h3, h4, h5, h6⟩⟩ := h.own.row
  · rw [h0] at hv; cases hv
  · rw [h0] at hv
    injection hv with hv
    have hv : g' = g := hv
    have hlt : g' < w.heap.size := Blk.lt (cs := cur) (t := e) h2
    omega
end
theorem words_any (l : List Nat) (w : World) (hl : ∀ x ∈ l, x < 256) (hlen : l.length ≤ 9223372036854775807) :
    Calls Try.prog 19 #[.string (strOf l)] w fun e w' => Grow w w' ∧ ((4000 < l.length ∧ e = .returned (.tuple #[.slice none 0 0, .int .i64 0, .int .i64 4])) ∨
      (l.length ≤ 4000 ∧ ∃ p : Nat, (lexAll l).2 = some p ∧ e = .returned (.tuple #[.slice none 0 0, .int .i64 (p : Int), .int .i64 11])) ∨
      (l.length ≤ 4000 ∧ (lexAll l).2 = none ∧ ∃ v, e = .returned (.tuple #[v, .int .i64 0, .int .i64 0]) ∧ Own w' w.heap.size 50 4 v (lexAll l).1.length (wdCells (lexAll l).1))) := by
  have bel := Below.refl w.heap.size w
  refine Calls.start 46 Try.func19 rfl rfl rfl ?_
  refine Cd.seq ?_
  refine Cd.region ?_
  refine Seq.val (Runs.assign rfl rfl) rfl rfl rfl ?_
  refine Seq.val (Runs.assign rfl rfl) rfl rfl rfl ?_
  refine Seq.val (Runs.assign rfl rfl) rfl rfl rfl ?_
  refine Seq.nil ?_
  refine Post.weak (F' := [(0, _), (2, _), (3, _), (4, _)]) ⟨rfl, rfl, rfl, rfl, trivial⟩ ?_
  refine Post.then_ ?_
  refine Cd.seq ?_
  refine Cd.seq ?_
  refine Cd.region ?_
  refine Seq.val (Runs.move rfl rfl) rfl rfl rfl ?_
  refine Seq.val (Runs.lenL rfl rfl Try.underlying9) rfl rfl rfl ?_
  refine Seq.val (Runs.gtr rfl rfl rfl) rfl rfl rfl ?_
  refine Seq.nil ?_
  refine Post.weak (F' := [(0, _), (2, _), (3, _), (4, _), (11, _)]) ⟨rfl, rfl, rfl, rfl, rfl, trivial⟩ ?_
  refine Post.then_ ?_
  refine Cd.condD rfl (fun h => ?_) (fun h => ?_)
  · skip
    refine Cd.seq ?_
    refine Cd.region ?_
    refine Seq.val (Runs.assign rfl rfl) rfl rfl rfl ?_
    refine Seq.val (Runs.assign rfl rfl) rfl rfl rfl ?_
    refine Seq.val (Runs.assign rfl rfl) rfl rfl rfl ?_
    refine Seq.nil ?_
    refine Post.weak (F' := [(0, _), (2, _), (3, _), (4, _), (11, _)]) ⟨rfl, rfl, rfl, rfl, rfl, trivial⟩ ?_
    refine Post.then_ ?_
    refine Cd.ret ?_
    refine Post.then_ret ?_
    refine Post.end3 rfl rfl rfl rfl (.inl rfl) ?_
    exact ⟨bel, .inl ⟨by omega, rfl⟩⟩
  have h4 : l.length ≤ 4000 := by omega
  clear h
  have hb0 := blankN_le l
  refine Cd.skip ?_
  refine Post.then_ ?_
  refine Cd.seq ?_
  refine Cd.region ?_
  refine Seq.val (Runs.assign rfl rfl) rfl rfl rfl ?_
  refine Seq.nil ?_
  refine Post.weak (F' := [(0, _), (2, _), (3, _), (4, _), (5, _), (11, _)]) ⟨rfl, rfl, rfl, rfl, rfl, rfl, trivial⟩ ?_
  refine Post.then_ ?_
  refine Cd.seq ?_
  refine Cd.seq ?_
  refine Cd.region ?_
  refine Seq.val (Runs.move rfl rfl) rfl rfl rfl ?_
  refine Seq.call (Enters.func rfl rfl rfl (run_enter Try.func50 (by kernel_rfl) rfl)) rfl rfl rfl (blank_any l _ hl hlen) ?_
  rintro e w4 ⟨rfl, hb4⟩
  refine ⟨_, rfl, ?_⟩
  replace bel := bel.step hb4
  have own : OwnA w4 w.heap.size 50 4 (.slice none 0 0) 0 [] := ⟨Own.nil _ _ _ _⟩
  refine Seq.val (Runs.assign rfl rfl) rfl rfl rfl ?_
  refine Seq.nil ?_
  refine Post.weak (F' := [(0, _), (2, _), (3, _), (4, _), (5, _), (6, _), (11, _)]) ⟨rfl, rfl, rfl, rfl, rfl, rfl, rfl, trivial⟩ ?_
  refine Post.then_ ?_
  refine Cd.block ?_
  refine Cd.loop (σ := Nat × Value × List Wd) (fun s => [(0, .string (strOf l)), (5, s.2.1), (6, .int .i64 (s.1 : Int))])
    (fun s wr => s.1 ≤ l.length ∧ s.2.2.length ≤ s.1 ∧ (∃ f, l.length + 1 ≤ f + s.1 ∧ lexAll l = (s.2.2 ++ (lexW f l s.1).1, (lexW f l s.1).2)) ∧ Below w.heap.size w wr ∧ OwnA wr w.heap.size 50 4 s.2.1 s.2.2.length (wdCells s.2.2)) (fun s => l.length - s.1) (blankN l, .slice none 0 0, [])
    ⟨hb0, by simp, ⟨l.length + 1, by dsimp only; omega, rfl⟩, bel, own⟩ ⟨rfl, rfl, rfl, trivial⟩ ?_
  clear bel
  clear own
  rintro ⟨p, v, ws⟩ wr ⟨hp, hwp, ⟨f, hf, hall⟩, bel, own⟩
  dsimp only at hp hwp hf hall own ⊢
  refine Cd.seq ?_
  refine Cd.seq ?_
  refine Cd.region ?_
  refine Seq.val (Runs.move rfl rfl) rfl rfl rfl ?_
  refine Seq.val (Runs.move rfl rfl) rfl rfl rfl ?_
  refine Seq.val (Runs.lenL rfl rfl Try.underlying9) rfl rfl rfl ?_
  refine Seq.val (Runs.lss rfl rfl rfl) rfl rfl rfl ?_
  refine Seq.nil ?_
  refine Post.weak (F' := [(0, _), (5, _), (6, _), (17, _)]) ⟨rfl, rfl, rfl, rfl, trivial⟩ ?_
  refine Post.then_ ?_
  refine Cd.condD rfl (fun hc => ?_) (fun hc => ?_)
  · obtain ⟨f', rfl⟩ : ∃ f', f = f' + 1 := ⟨f - 1, by omega⟩
    have hdl := drop_lt hl p
    have hdn : (l.drop p).length ≤ 9223372036854775807 := by rw [List.length_drop]; omega
    have hstep := lexW_step f' l p (by omega)
    refine Cd.skip ?_
    refine Post.then_ ?_
    refine Cd.seq ?_
    refine Cd.block ?_
    refine Cd.seq ?_
    refine Cd.region ?_
    refine Seq.val (Runs.move rfl rfl) rfl rfl rfl ?_
    refine Seq.val (Runs.move rfl rfl) rfl rfl rfl ?_
    refine Seq.val (Runs.sliceFrom (j := p) rfl rfl rfl Try.underlying9 rfl hp) rfl rfl rfl ?_
    refine Seq.call (Enters.func rfl rfl rfl (run_enter Try.func51 (by kernel_rfl) rfl)) rfl rfl rfl (next_any (l.drop p) _ hdl hdn (by intro h0; have := congrArg List.length h0; rw [List.length_drop] at this; simp at this; omega)) ?_
    rintro e w6 ⟨a, b, c, ok, rfl, hnx, hb6⟩
    refine ⟨_, rfl, ?_⟩
    replace bel := bel.step hb6
    replace own := own.step hb6
    have hneg : ∀ g, w6.heap.size ≤ g → v.ownBlock ≠ some g := fun g hg => own.ne hg
    have hstep1 : ok = false → lexW (f' + 1) l p = ([], some p) := fun h => by rw [hstep, hnx, h]; rfl
    have hstep2 : ok = true → lexW (f' + 1) l p = (⟨a, b, c, p⟩ :: (lexW f' l (p + b.length + blankN (l.drop (p + b.length)))).1, (lexW f' l (p + b.length + blankN (l.drop (p + b.length)))).2) := fun h => by rw [hstep, hnx, h]; rfl
    have hspec : ok = true → 0 < b.length ∧ b = (l.drop p).take b.length ∧ b.length ≤ (l.drop p).length := fun h => nextW_spec (by rw [hnx, h]; rfl)
    clear hstep hnx
    refine Seq.val (Runs.move rfl rfl) rfl rfl rfl ?_
    refine Seq.val (Runs.extract rfl rfl rfl) rfl rfl rfl ?_
    refine Seq.val (Runs.extract rfl rfl rfl) rfl rfl rfl ?_
    refine Seq.alloc rfl (run_zero zero_lex_Word) rfl rfl rfl ?_
    intro g7 w1 n7
    have e7 := Nat.le_trans bel.size n7.ge
    replace bel := bel.step n7.below
    replace own := own.step n7.below
    have k7 := n7.blk
    have hne7 : v.ownBlock ≠ some g7 := hneg g7 n7.ge
    refine Seq.storeN rfl rfl rfl rfl (m := 4) (by kernel_rfl) rfl (by repeat' first | exact trivial | apply And.intro | rfl | assumption) k7 (by simp [Value.cells]) rfl rfl ?_
    intro w2 pw2
    replace bel := bel.put k7 pw2 e7
    replace own := own.put k7 pw2 e7
    replace k7 := pw2.blk
    refine Seq.val (Runs.assign rfl rfl) rfl rfl rfl ?_
    refine Seq.nil ?_
    refine Post.weak (F' := [(0, _), (5, _), (6, _), (7, _), (8, _), (17, _)]) ⟨rfl, rfl, rfl, rfl, rfl, rfl, trivial⟩ ?_
    refine Post.then_ ?_
    refine Cd.seq ?_
    refine Cd.seq ?_
    refine Cd.region ?_
    refine Seq.val (Runs.move rfl rfl) rfl rfl rfl ?_
    refine Seq.val (Runs.not rfl rfl) rfl rfl rfl ?_
    refine Seq.nil ?_
    refine Post.weak (F' := [(0, _), (5, _), (6, _), (7, _), (8, _), (17, _), (32, _)]) ⟨rfl, rfl, rfl, rfl, rfl, rfl, rfl, trivial⟩ ?_
    refine Post.then_ ?_
    refine Cd.cond rfl (fun h => ?_) (fun h => ?_)
    · have hok : ok = false := by cases ok <;> simp at h ⊢
      rw [hstep1 hok] at hall
      refine Cd.seq ?_
      refine Cd.region ?_
      refine Seq.val (Runs.move rfl rfl) rfl rfl rfl ?_
      refine Seq.val (Runs.assign rfl rfl) rfl rfl rfl ?_
      refine Seq.val (Runs.assign rfl rfl) rfl rfl rfl ?_
      refine Seq.val (Runs.assign rfl rfl) rfl rfl rfl ?_
      refine Seq.nil ?_
      refine Post.weak (F' := [(0, _), (2, _), (3, _), (4, _), (5, _), (6, _), (7, _), (8, _), (17, _), (32, _)]) ⟨rfl, rfl, rfl, rfl, rfl, rfl, rfl, rfl, rfl, rfl, trivial⟩ ?_
      refine Post.then_ ?_
      refine Cd.ret ?_
      refine Post.then_ret ?_
      refine Post.block_ret ?_
      refine Post.then_ret ?_
      refine Post.round_ret ?_
      refine Post.block_ret ?_
      refine Post.then_ret ?_
      refine Post.end3 rfl rfl rfl rfl (.inl rfl) ?_
      exact ⟨bel, .inr (.inl ⟨h4, p, by rw [hall], rfl⟩)⟩
    · have hok : ok = true := by cases ok <;> simp at h ⊢
      obtain ⟨s1, s2, s3⟩ := hspec hok
      rw [List.length_drop] at s3
      rw [hstep2 hok] at hall
      clear hstep1 hstep2 hspec
      have hbl := blankN_le (l.drop (p + b.length))
      rw [List.length_drop] at hbl
      refine Cd.skip ?_
      refine Post.then_ ?_
      refine Cd.seq ?_
      refine Cd.region ?_
      refine Seq.val (Runs.move rfl rfl) rfl rfl rfl ?_
      refine Seq.val (Runs.fieldB 3 rfl rfl Try.underlying50 rfl (by kernel_rfl)) rfl rfl rfl ?_
      refine Seq.store1 rfl rfl rfl (by kernel_rfl) rfl rfl k7 rfl rfl rfl ?_
      intro w3 pw3
      replace bel := bel.put k7 pw3 e7
      replace own := own.put k7 pw3 e7
      replace k7 := pw3.blk
      refine Seq.nil ?_
      refine Post.weak (F' := [(0, _), (5, _), (6, _), (7, _), (8, _), (17, _), (32, _)]) ⟨rfl, rfl, rfl, rfl, rfl, rfl, rfl, trivial⟩ ?_
      refine Post.then_ ?_
      refine Cd.seq ?_
      refine Cd.region ?_
      refine Seq.val (Runs.move rfl rfl) rfl rfl rfl ?_
      refine Seq.val (Runs.loadW rfl rfl Try.underlying50 rfl k7 (m := 4) (by kernel_rfl) rfl) rfl rfl rfl ?_
      refine Seq.slice (vs := [_]) (s := 4) rfl rfl rfl Try.underlying40 (by kernel_rfl) (zero_lex_Word) (by omega) (by omega) ⟨rfl, trivial⟩ rfl rfl rfl ?_
      intro g38 w4 n38
      have e38 := Nat.le_trans bel.size n38.ge
      have l38 := Nat.lt_of_lt_of_le k7.lt n38.ge
      replace bel := bel.step n38.below
      replace own := own.step n38.below
      replace k7 := k7.step n38.below
      have k38 := n38.blk
      replace own := own.own
      refine Seq.append rfl rfl rfl Try.underlying40 (by kernel_rfl) zero_lex_Word rfl (by decide) (b := 40) (by kernel_rfl) own (Reads.blk (size := 4) k38 1 rfl) (by intro x hx; simp [flatC, Value.cells] at hx; rcases hx with rfl | rfl | rfl | rfl <;> rfl) bel.size (by simp only [maxLen]; omega) (by omega) rfl rfl rfl ?_
      clear own
      intro vw5 w5 own haw5
      replace bel := bel.trans haw5.below
      replace k7 := k7.grown haw5.grown (fun e => hne7 e.symm)
      replace own : OwnA w5 w.heap.size 50 4 vw5 (ws ++ [(⟨a, b, c, p⟩ : Wd)]).length (wdCells (ws ++ [⟨a, b, c, p⟩])) := ⟨by rw [List.length_append, wdCells_snoc]; exact own⟩
      refine Seq.val (Runs.assign rfl rfl) rfl rfl rfl ?_
      refine Seq.nil ?_
      refine Post.weak (F' := [(0, _), (5, _), (6, _), (7, _), (8, _), (17, _), (32, _)]) ⟨rfl, rfl, rfl, rfl, rfl, rfl, rfl, trivial⟩ ?_
      refine Post.then_ ?_
      refine Cd.region ?_
      refine Seq.val (Runs.move rfl rfl) rfl rfl rfl ?_
      refine Seq.val (Runs.fieldB 1 rfl rfl Try.underlying50 rfl (by kernel_rfl)) rfl rfl rfl ?_
      refine Seq.val (Runs.loadB rfl rfl Try.underlying9 rfl k7 rfl) rfl rfl rfl ?_
      refine Seq.val (Runs.lenL rfl rfl Try.underlying9) rfl rfl rfl ?_
      refine Seq.val (Runs.addI rfl rfl rfl (by omega) (by omega)) rfl rfl rfl ?_
      refine Seq.val (Runs.assign rfl rfl) rfl rfl rfl ?_
      refine Seq.nil ?_
      refine Post.weak (F' := [(0, _), (5, _), (6, _), (7, _), (8, _), (17, _), (32, _)]) ⟨rfl, rfl, rfl, rfl, rfl, rfl, rfl, trivial⟩ ?_
      refine Post.block_normal ?_
      refine Post.then_ ?_
      refine Cd.region ?_
      refine Seq.val (Runs.move rfl rfl) rfl rfl rfl ?_
      refine Seq.val (Runs.move rfl rfl) rfl rfl rfl ?_
      refine Seq.val (Runs.move rfl rfl) rfl rfl rfl ?_
      refine Seq.val (Runs.sliceFrom (j := p + b.length) rfl rfl rfl Try.underlying9 rfl (by omega)) rfl rfl rfl ?_
      refine Seq.call (Enters.func rfl rfl rfl (run_enter Try.func50 (by kernel_rfl) rfl)) rfl rfl rfl (blank_any (l.drop (p + b.length)) _ (drop_lt hl _) (by rw [List.length_drop]; omega)) ?_
      rintro e w8 ⟨rfl, hb8⟩
      refine ⟨_, rfl, ?_⟩
      replace bel := bel.step hb8
      replace own := own.step hb8
      replace k7 := k7.step hb8
      generalize hq : p + b.length + blankN (l.drop (p + b.length)) = q at *
      refine Seq.val (Runs.addI rfl rfl rfl (by omega) (by omega)) rfl rfl rfl ?_
      refine Seq.val (Runs.assign rfl rfl) rfl rfl rfl ?_
      refine Seq.nil ?_
      refine Post.weak (F' := [(0, _), (5, _), (6, _), (7, _), (8, _), (17, _), (32, _)]) ⟨rfl, rfl, rfl, rfl, rfl, rfl, rfl, trivial⟩ ?_
      refine Post.round (q, vw5, ws ++ [⟨a, b, c, p⟩]) ⟨rfl, rfl, congrArg (fun x : Int => some (Value.int .i64 x)) (show ((p : Int) + (b.length : Int) + (blankN (l.drop (p + b.length)) : Int)) = ((q : Nat) : Int) by omega), trivial⟩ ⟨by dsimp only; omega, by dsimp only; rw [List.length_append]; simp; omega, ⟨f', by dsimp only; omega, ?_⟩, bel, own⟩ (by dsimp only; omega)
      dsimp only
      rw [hall, List.append_assoc]
      rfl
  · have hpe : p = l.length := by omega
    rw [lexW_end f l p (by omega)] at hall
    dsimp only at hall
    rw [List.append_nil] at hall
    refine Cd.exit ?_
    refine Post.then_exit ?_
    refine Post.round_exit ?_
    refine Post.block_exit ?_
    refine Post.then_ ?_
    refine Cd.seq ?_
    refine Cd.region ?_
    refine Seq.val (Runs.move rfl rfl) rfl rfl rfl ?_
    refine Seq.val (Runs.assign rfl rfl) rfl rfl rfl ?_
    refine Seq.val (Runs.assign rfl rfl) rfl rfl rfl ?_
    refine Seq.val (Runs.assign rfl rfl) rfl rfl rfl ?_
    refine Seq.nil ?_
    refine Post.weak (F' := [(0, _), (2, _), (3, _), (4, _), (5, _), (6, _), (17, _)]) ⟨rfl, rfl, rfl, rfl, rfl, rfl, rfl, trivial⟩ ?_
    refine Post.then_ ?_
    refine Cd.ret ?_
    refine Post.end3 rfl rfl rfl rfl (.inl rfl) ?_
    exact ⟨bel, .inr (.inr ⟨h4, by rw [hall], v, rfl, by rw [hall]; exact own.own⟩)⟩
end Go.Proofs.Ytijaldpmpjapiaa
