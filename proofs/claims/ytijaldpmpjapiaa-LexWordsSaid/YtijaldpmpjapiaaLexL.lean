/-
  debentureref17's Words: what it answers. Condition: the text is of 4000 bytes at most.
-/
import Derived.Test.YtijaldpmpjapiaaLexK
import Derived.Test.YtijaldpmpjapiaaLexJ
import Derived.Test.YtijaldpmpjapiaaDateE
namespace Go.Proofs.Ytijaldpmpjapiaa
open Go.RowKit

theorem zero_debentureref17_Word : zeroIs Try.prog 90 = some (some (.agg #[.int .i64 0, .string { data := #[] }, .int .i64 0, .int .i64 0])) := by kernel_rfl
theorem run_build_RWord (a c d : Int) (s : ByteArray) (w : World) : (Instr.build 90 #[(0, .int .i64 a), (1, .string s), (2, .int .i64 c), (3, .int .i64 d)]).run Try.prog w = .ok (.agg #[.int .i64 a, .string s, .int .i64 c, .int .i64 d]) w := by
  have hu := Try.underlying90
  go_simp
theorem runN_take (p : Nat → Bool) : ∀ l : List Nat, runN p (l.take (runN p l)) = runN p l
  | [] => rfl
  | c :: l => by
    rw [runN_cons]
    split
    · rename_i h
      rw [List.take_succ_cons, runN_cons, if_pos h, runN_take p l]
    · rfl
theorem named_run (c : Nat) (r : List Nat) (hc : letB c = true) : namedB ((c :: r).take (runN partB (c :: r))) = decide (runN partB (c :: r) ≤ 16) := by
  have hp : partB c = true := by unfold partB; rw [hc]; rfl
  have h1 := runN_take partB (c :: r)
  have h2 : ((c :: r).take (runN partB (c :: r))).length = runN partB (c :: r) := by have := runN_le partB (c :: r); rw [List.length_take]; omega
  have h3 : 0 < runN partB (c :: r) := run_pos rfl hp
  have h4 : ((c :: r).take (runN partB (c :: r))).getD 0 0 = c := by
    obtain ⟨n, hn⟩ : ∃ n, runN partB (c :: r) = n + 1 := ⟨runN partB (c :: r) - 1, by omega⟩
    rw [hn]; rfl
  have h5 : (c :: r).take (runN partB (c :: r)) ≠ [] := fun h => by rw [h] at h2; simp at h2; omega
  unfold namedB
  rw [h1, h2, h4, hc, decide_eq_true h5]
  simp
theorem day_dig (c : Nat) (r : List Nat) (h : dayOk (c :: r) = true) : digB c = true := by
  unfold dayOk at h
  simp at h
  have h := h.2
  unfold dateOk at h
  simp only [Bool.and_eq_true] at h
  have h := (ofOk_bd h.2).1
  unfold numZ at h
  split at h
  · rename_i ha
    exact List.all_eq_true.1 ha c (by simp)
  · omega
theorem blank_one {l : List Nat} {p c : Nat} (hc : l[p]? = some c) (hb : blankB c = true) : p + blankN (l.drop p) = p + 1 + blankN (l.drop (p + 1)) := by
  have hp : p < l.length := (List.getElem?_eq_some_iff.1 hc).1
  have e : l.drop p = c :: l.drop (p + 1) := by rw [List.drop_eq_getElem_cons hp]; congr; rw [List.getElem?_eq_getElem hp] at hc; injection hc
  rw [e, blankN_step, if_pos hb]
  omega
theorem blank_rem {l : List Nat} {p : Nat} (hc : l[p]? = some 35) : p + blankN (l.drop p) = p + runN noteB (l.drop p) + blankN (l.drop (p + runN noteB (l.drop p))) := by
  have hp : p < l.length := (List.getElem?_eq_some_iff.1 hc).1
  have e : l.drop p = 35 :: l.drop (p + 1) := by rw [List.drop_eq_getElem_cons hp]; congr; rw [List.getElem?_eq_getElem hp] at hc; injection hc
  have h := blankN_step 35 (l.drop (p + 1))
  rw [if_neg (by decide), if_pos rfl, ← e, List.drop_drop] at h
  omega
theorem blank_no {l : List Nat} {p c : Nat} (hc : l[p]? = some c) (hb : blankB c = false) (h35 : c ≠ 35) : blankN (l.drop p) = 0 := by
  have hp : p < l.length := (List.getElem?_eq_some_iff.1 hc).1
  have e : l.drop p = c :: l.drop (p + 1) := by rw [List.drop_eq_getElem_cons hp]; congr; rw [List.getElem?_eq_getElem hp] at hc; injection hc
  rw [e, blankN_step, if_neg (by rw [hb]; simp), if_neg h35]
theorem dropAt {l : List Nat} {p c : Nat} (hc : l[p]? = some c) : l.drop p = c :: l.drop (p + 1) := by
  have hp : p < l.length := (List.getElem?_eq_some_iff.1 hc).1
  rw [List.drop_eq_getElem_cons hp]; congr; rw [List.getElem?_eq_getElem hp] at hc; injection hc

theorem lexW_none {f p : Nat} {l : List Nat} (h : p < l.length) (hn : nextW (l.drop p) = none) : lexW (f + 1) l p = ([], some p) := by rw [lexW_step f l p h, hn]
theorem lexW_some {f p : Nat} {l t : List Nat} {k n : Int} (h : p < l.length) (hn : nextW (l.drop p) = some (k, t, n)) : lexW (f + 1) l p = (⟨k, t, n, p⟩ :: (lexW f l (p + t.length + blankN (l.drop (p + t.length)))).1, (lexW f l (p + t.length + blankN (l.drop (p + t.length)))).2) := by rw [lexW_step f l p h, hn]
theorem refWords_any (l : List Nat) (w : World) (hl : ∀ x ∈ l, x < 256) (hlen : l.length ≤ 4000) :
    Calls Try.prog 21 #[.string (strOf l)] w fun e w' => Grow w w' ∧ ((∃ p : Nat, (lexAll l).2 = some p ∧ e = .returned (.tuple #[.slice none 0 0, .int .i64 (p : Int)])) ∨
      ((lexAll l).2 = none ∧ ∃ v, e = .returned (.tuple #[v, .int .i64 (-1)]) ∧ Own w' w.heap.size 90 4 v (lexAll l).1.length (wdCells (lexAll l).1))) := by
  have bel := Below.refl w.heap.size w
  refine Calls.start 161 Try.func21 rfl rfl rfl ?_
  refine Cd.seq ?_
  refine Cd.region ?_
  refine Seq.val (Runs.assign rfl rfl) rfl rfl rfl ?_
  refine Seq.val (Runs.assign rfl rfl) rfl rfl rfl ?_
  refine Seq.nil ?_
  refine Post.weak (F' := [(0, _), (2, _), (3, _)]) ⟨rfl, rfl, rfl, trivial⟩ ?_
  refine Post.then_ ?_
  refine Cd.seq ?_
  refine Cd.region ?_
  refine Seq.val (Runs.assign rfl rfl) rfl rfl rfl ?_
  refine Seq.nil ?_
  refine Post.weak (F' := [(0, _), (2, _), (3, _), (4, _)]) ⟨rfl, rfl, rfl, rfl, trivial⟩ ?_
  refine Post.then_ ?_
  refine Cd.seq ?_
  refine Cd.region ?_
  refine Seq.val (Runs.assign rfl rfl) rfl rfl rfl ?_
  refine Seq.nil ?_
  refine Post.weak (F' := [(0, _), (2, _), (3, _), (4, _), (5, _)]) ⟨rfl, rfl, rfl, rfl, rfl, trivial⟩ ?_
  refine Post.then_ ?_
  refine Cd.seq ?_
  refine Cd.block ?_
  have own : OwnA w w.heap.size 90 4 (.slice none 0 0) 0 [] := ⟨Own.nil _ _ _ _⟩
  refine Cd.loop (σ := Nat × Value × List Wd) (fun s => [(0, .string (strOf l)), (4, s.2.1), (5, .int .i64 (s.1 : Int))])
    (fun s wr => s.1 ≤ l.length ∧ s.2.2.length ≤ s.1 ∧ (∃ f, l.length + 1 ≤ f + s.1 ∧ lexAll l = (s.2.2 ++ (lexW f l (s.1 + blankN (l.drop s.1))).1, (lexW f l (s.1 + blankN (l.drop s.1))).2)) ∧ Below w.heap.size w wr ∧ OwnA wr w.heap.size 90 4 s.2.1 s.2.2.length (wdCells s.2.2)) (fun s => l.length - s.1) (0, .slice none 0 0, [])
    ⟨Nat.zero_le _, by simp, ⟨l.length + 1, by dsimp only; omega, by dsimp only; rw [Nat.zero_add]; rfl⟩, bel, own⟩ ⟨rfl, rfl, rfl, trivial⟩ ?_
  clear bel
  clear own
  rintro ⟨p, v, ws⟩ wr ⟨hp, hwp, ⟨f, hf, hall⟩, bel, own⟩
  dsimp only at hp hwp hf hall own ⊢
  refine Cd.seq ?_
  refine Cd.seq ?_
  refine Cd.region ?_
  refine Seq.val (Runs.move rfl rfl) rfl rfl rfl ?_
  refine Seq.val (Runs.move rfl rfl) rfl rfl rfl ?_
  refine Seq.val (Runs.lenL rfl rfl Try.underlying9) rfl rfl rfl ?_
  refine Seq.val (Runs.lss rfl rfl rfl) rfl rfl rfl ?_
  refine Seq.nil ?_
  refine Post.weak (F' := [(0, _), (4, _), (5, _), (14, _)]) ⟨rfl, rfl, rfl, rfl, trivial⟩ ?_
  refine Post.then_ ?_
  refine Cd.condD rfl (fun hc => ?_) (fun hc => ?_)
  · obtain ⟨c, hcc⟩ : ∃ c, l[p]? = some c := ⟨_, List.getElem?_eq_getElem (show p < l.length by omega)⟩
    have hc256 := hl c (List.mem_of_getElem? hcc)
    refine Cd.skip ?_
    refine Post.then_ ?_
    refine Cd.block ?_
    refine Cd.seq ?_
    refine Cd.region ?_
    refine Seq.val (Runs.move rfl rfl) rfl rfl rfl ?_
    refine Seq.val (Runs.move rfl rfl) rfl rfl rfl ?_
    refine Seq.val (Runs.indexL (l := l) (j := p) rfl rfl rfl Try.underlying9 rfl hcc hc256) rfl rfl rfl ?_
    refine Seq.val (Runs.assign rfl rfl) rfl rfl rfl ?_
    refine Seq.nil ?_
    refine Post.weak (F' := [(0, _), (4, _), (5, _), (6, _), (14, _)]) ⟨rfl, rfl, rfl, rfl, rfl, trivial⟩ ?_
    refine Post.then_ ?_
    refine Cd.seq ?_
    refine Cd.seq ?_
    refine Cd.region ?_
    refine Seq.val (Runs.move rfl rfl) rfl rfl rfl ?_
    refine Seq.val (Runs.eqlI rfl rfl rfl) rfl rfl rfl ?_
    refine Seq.val (Runs.move rfl rfl) rfl rfl rfl ?_
    refine SeqC.start ?_
    refine SeqC.open rfl rfl rfl rfl rfl rfl rfl (fun hcx => Runs.move rfl rfl) ?_
    refine SeqC.next rfl rfl rfl rfl rfl rfl rfl (fun hcx => Runs.eqlI rfl rfl rfl) ?_
    refine SeqC.or rfl rfl rfl rfl rfl rfl rfl ?_
    refine Seq.val (Runs.move rfl rfl) rfl rfl rfl ?_
    refine SeqC.start ?_
    refine SeqC.open rfl rfl rfl rfl rfl rfl rfl (fun hcx => Runs.move rfl rfl) ?_
    refine SeqC.next rfl rfl rfl rfl rfl rfl rfl (fun hcx => Runs.eqlI rfl rfl rfl) ?_
    refine SeqC.or rfl rfl rfl rfl rfl rfl rfl ?_
    refine Seq.nil ?_
    refine Post.weak (F' := [(0, _), (4, _), (5, _), (6, _), (14, _), (27, _)]) ⟨rfl, rfl, rfl, rfl, rfl, rfl, trivial⟩ ?_
    refine Post.then_ ?_
    refine Cd.cond rfl (fun h => ?_) (fun h => ?_)
    · have hbb : blankB c = true := by unfold blankB; simp at h ⊢; omega
      rw [blank_one hcc hbb] at hall
      refine Cd.seq ?_
      refine Cd.region ?_
      refine Seq.val (Runs.move rfl rfl) rfl rfl rfl ?_
      refine Seq.val (Runs.addI rfl rfl rfl (by omega) (by omega)) rfl rfl rfl ?_
      refine Seq.val (Runs.assign rfl rfl) rfl rfl rfl ?_
      refine Seq.nil ?_
      refine Post.weak (F' := [(0, _), (4, _), (5, _), (6, _), (14, _), (27, _)]) ⟨rfl, rfl, rfl, rfl, rfl, rfl, trivial⟩ ?_
      refine Post.then_ ?_
      refine Cd.exit ?_
      refine Post.then_exit ?_
      refine Post.block_exit ?_
      exact Post.round (p + 1, v, ws) ⟨rfl, rfl, rfl, trivial⟩ ⟨by dsimp only; omega, by dsimp only; omega, ⟨f, by dsimp only; omega, hall⟩, bel, own⟩ (by dsimp only; omega)
    have hbb : blankB c = false := by unfold blankB; simp at h ⊢; omega
    clear h
    refine Cd.skip ?_
    refine Post.then_ ?_
    refine Cd.seq ?_
    refine Cd.seq ?_
    refine Cd.region ?_
    refine Seq.val (Runs.move rfl rfl) rfl rfl rfl ?_
    refine Seq.val (Runs.eqlI rfl rfl rfl) rfl rfl rfl ?_
    refine Seq.nil ?_
    refine Post.weak (F' := [(0, _), (4, _), (5, _), (6, _), (14, _), (27, _), (31, _)]) ⟨rfl, rfl, rfl, rfl, rfl, rfl, rfl, trivial⟩ ?_
    refine Post.then_ ?_
    refine Cd.condD rfl (fun hc => ?_) (fun hc => ?_)
    · obtain rfl : c = 35 := by omega
      have hrl := runN_le noteB (l.drop p)
      rw [List.length_drop] at hrl
      have hr0 : 0 < runN noteB (l.drop p) := by rw [dropAt hcc, runN_cons, if_pos (by decide)]; omega
      rw [blank_rem hcc] at hall
      refine Cd.seq ?_
      refine Cd.block ?_
      refine Cd.loop (σ := Nat) (fun j => [(0, .string (strOf l)), (4, v), (5, .int .i64 ((p + j : Nat) : Int))])
        (fun j wr => j ≤ runN noteB (l.drop p) ∧ Below w.heap.size w wr ∧ OwnA wr w.heap.size 90 4 v ws.length (wdCells ws)) (fun j => l.length - j) 0 ⟨Nat.zero_le _, bel, own⟩ ⟨rfl, rfl, rfl, trivial⟩ ?_
      clear bel own
      rintro j wr2 ⟨hj, bel, own⟩
      have hcj : p + j < l.length → ∃ d, l[p + j]? = some d ∧ d < 256 ∧ (noteB d = true ↔ j < runN noteB (l.drop p)) := fun h => by
        have hd : l[p + j]? = some l[p + j] := List.getElem?_eq_getElem h
        exact ⟨_, hd, hl _ (List.getElem_mem h), runN_upto noteB (l.drop p) j hj _ (by rw [List.getElem?_drop]; exact hd)⟩
      generalize runN noteB (l.drop p) = R at *
      have hcd : ∃ d, (p + j < l.length → l[p + j]? = some d) ∧ d < 256 ∧ (p + j < l.length → (d ≠ 10 ↔ j < R)) := by
        rcases Nat.lt_or_ge (p + j) l.length with h | h
        · obtain ⟨d, h1, h2, h3⟩ := hcj h
          exact ⟨d, fun _ => h1, h2, fun _ => by rw [← h3]; unfold noteB; simp⟩
        · exact ⟨0, fun h2 => absurd h2 (by omega), by omega, fun h2 => absurd h2 (by omega)⟩
      obtain ⟨d, hd1, hd2, hd3⟩ := hcd
      clear hcj
      refine Cd.seq ?_
      refine Cd.seq ?_
      refine Cd.region ?_
      refine Seq.val (Runs.move rfl rfl) rfl rfl rfl ?_
      refine Seq.val (Runs.move rfl rfl) rfl rfl rfl ?_
      refine Seq.val (Runs.lenL rfl rfl Try.underlying9) rfl rfl rfl ?_
      refine Seq.val (Runs.lss rfl rfl rfl) rfl rfl rfl ?_
      refine Seq.val (Runs.move rfl rfl) rfl rfl rfl ?_
      refine SeqC.start ?_
      refine SeqC.open rfl rfl rfl rfl rfl rfl rfl (fun hcx => Runs.move rfl rfl) ?_
      refine SeqC.next rfl rfl rfl rfl rfl rfl rfl (fun hcx => Runs.move rfl rfl) ?_
      refine SeqC.next rfl rfl rfl rfl rfl rfl rfl (fun hcx => Runs.indexL (l := l) (j := p + j) (c := d) rfl rfl rfl Try.underlying9 rfl (hd1 (by simp at hcx; omega)) hd2) ?_
      refine SeqC.next rfl rfl rfl rfl rfl rfl rfl (fun hcx => Runs.neqI rfl rfl rfl) ?_
      refine SeqC.and rfl rfl rfl rfl rfl rfl rfl ?_
      refine Seq.nil ?_
      refine Post.weak (F' := [(0, _), (4, _), (5, _), (41, _)]) ⟨rfl, rfl, rfl, rfl, trivial⟩ ?_
      refine Post.then_ ?_
      refine Cd.cond rfl (fun h => ?_) (fun h => ?_)
      · have hlt : p + j < l.length ∧ j < R := by
          simp at h
          have := hd3 (by omega)
          exact ⟨by omega, this.1 (by omega)⟩
        refine Cd.skip ?_
        refine Post.then_ ?_
        refine Cd.block ?_
        refine Cd.region ?_
        refine Seq.val (Runs.move rfl rfl) rfl rfl rfl ?_
        refine Seq.val (Runs.addI rfl rfl rfl (by omega) (by omega)) rfl rfl rfl ?_
        refine Seq.val (Runs.assign rfl rfl) rfl rfl rfl ?_
        refine Seq.nil ?_
        refine Post.weak (F' := [(0, _), (4, _), (5, _), (41, _)]) ⟨rfl, rfl, rfl, rfl, trivial⟩ ?_
        refine Post.block_normal ?_
        exact Post.round (j + 1) ⟨rfl, rfl, congrArg (fun x : Int => some (Value.int .i64 x)) (show ((p + j : Nat) : Int) + 1 = ((p + (j + 1) : Nat) : Int) by omega), trivial⟩ ⟨by omega, bel, own⟩ (by omega)
      · obtain rfl : j = R := by
          simp at h
          rcases Nat.lt_or_ge (p + j) l.length with h2 | h2
          · have := hd3 h2
            rcases Nat.lt_or_ge j R with h3 | h3
            · have := this.2 h3
              omega
            · omega
          · omega
        refine Cd.exit ?_
        refine Post.then_exit ?_
        refine Post.round_exit ?_
        refine Post.block_exit ?_
        refine Post.then_ ?_
        refine Cd.exit ?_
        refine Post.then_exit ?_
        refine Post.block_exit ?_
        exact Post.round (p + j, v, ws) ⟨rfl, rfl, rfl, trivial⟩ ⟨by dsimp only; omega, by dsimp only; omega, ⟨f, by dsimp only; omega, hall⟩, bel, own⟩ (by dsimp only; omega)
    have hbn := blank_no hcc hbb (by omega)
    rw [hbn, Nat.add_zero] at hall
    have hdrop := dropAt hcc
    have hdn : (l.drop p).length = l.length - p := List.length_drop
    have hdl := drop_lt hl p
    have hD : (l.take (p + 10)).drop p = (l.drop p).take 10 := by rw [List.drop_take, Nat.add_sub_cancel_left]
    have hDl := take_lt hdl 10
    have hDn : ((l.drop p).take 10).length ≤ 9223372036854775807 := by rw [List.length_take]; omega
    have hz0 : dateOk ((l.drop p).take 10) = true → 0 ≤ dateZ ((l.drop p).take 10) ∧ dateZ ((l.drop p).take 10) ≤ 2932896 := fun h => by
      have h2 := h
      unfold dateOk at h2
      simp only [Bool.and_eq_true] at h2
      have h3 := of_span h2.2
      unfold dateZ
      rw [if_pos h]
      exact ⟨h3.2.2.2.2.2.2.2.2.1, h3.2.2.2.2.2.2.2.2.2⟩
    have hday : dayOk (l.drop p) = (decide (10 ≤ l.length - p) && !(decide (10 < l.length - p) && partB ((l.drop p).getD 10 0)) && dateOk ((l.drop p).take 10)) := by unfold dayOk; rw [hdn]
    have h10 : p + 10 < l.length → l[p + 10]? = some ((l.drop p).getD 10 0) := fun h => by
      rw [List.getD_eq_getElem?_getD, List.getElem?_drop, List.getElem?_eq_getElem h]; rfl
    have h10b : (l.drop p).getD 10 0 < 256 := by
      rcases Nat.lt_or_ge 10 (l.drop p).length with h | h
      · rw [List.getD_eq_getElem?_getD, List.getElem?_eq_getElem h]; exact hdl _ (List.getElem_mem h)
      · rw [List.getD_eq_getElem?_getD, List.getElem?_eq_none h]; simp
    have hnx : nextW (l.drop p) = if digB c then (if dayOk (l.drop p) then some (2, (l.drop p).take 10, dateZ ((l.drop p).take 10)) else (amt0 ((l.drop p).take (runN partB (l.drop p)))).map fun v => (1, (l.drop p).take (runN partB (l.drop p)), v))
      else if letB c then (if runN partB (l.drop p) ≤ 16 then some (3, (l.drop p).take (runN partB (l.drop p)), 0) else none)
      else (signW (l.drop p)).map fun s => (0, s, 0) := by rw [hdrop]; rfl
    have hdd : dayOk (l.drop p) = true → digB c = true := fun h => by rw [hdrop] at h; exact day_dig _ _ h
    generalize (l.drop p).getD 10 0 = c10 at *
    obtain ⟨f', rfl⟩ : ∃ f', f = f' + 1 := ⟨f - 1, by omega⟩
    have hstep := lexW_step f' l p (by omega)
    have hDlen : 10 ≤ l.length - p → ((l.drop p).take 10).length = 10 := fun h => by rw [List.length_take]; omega
    refine Cd.skip ?_
    refine Post.then_ ?_
    refine Cd.seq ?_
    refine Cd.seq ?_
    refine Cd.region ?_
    refine Seq.val (Runs.move rfl rfl) rfl rfl rfl ?_
    refine Seq.val (Runs.lenL rfl rfl Try.underlying9) rfl rfl rfl ?_
    refine Seq.val (Runs.move rfl rfl) rfl rfl rfl ?_
    refine Seq.val (Runs.subI rfl rfl rfl (by omega) (by omega)) rfl rfl rfl ?_
    refine Seq.val (Runs.geq rfl rfl rfl) rfl rfl rfl ?_
    refine Seq.val (Runs.move rfl rfl) rfl rfl rfl ?_
    refine SeqC.start ?_
    refine SeqC.open rfl rfl rfl rfl rfl rfl rfl (fun hcx => Runs.move rfl rfl) ?_
    refine SeqC.next rfl rfl rfl rfl rfl rfl rfl (fun hcx => Runs.move rfl rfl) ?_
    refine SeqC.next rfl rfl rfl rfl rfl rfl rfl (fun hcx => Runs.move rfl rfl) ?_
    refine SeqC.next rfl rfl rfl rfl rfl rfl rfl (fun hcx => Runs.addI rfl rfl rfl (by omega) (by omega)) ?_
    refine SeqC.next rfl rfl rfl rfl rfl rfl rfl (fun hcx => Runs.sliceAtL (i := p) (j := p + 10) rfl rfl rfl rfl Try.underlying9 rfl (by omega) (by omega) (by simp at hcx; omega)) ?_
    rw [hD]
    refine SeqC.nextC rfl rfl rfl rfl rfl rfl rfl (fun hcx => Enters.func rfl rfl rfl (run_enter Try.func52 (by kernel_rfl) rfl)) (fun hcx => refDayParse_any ((l.drop p).take 10) _ hDl hDn) ?_
    intro w1 hw1
    replace bel := bel.step hw1
    replace own := own.step hw1
    refine SeqC.next rfl rfl rfl rfl rfl rfl rfl (fun hcx => Runs.geq rfl rfl rfl) ?_
    refine SeqC.and rfl rfl rfl rfl rfl rfl rfl ?_
    refine Seq.val (Runs.move rfl rfl) rfl rfl rfl ?_
    refine SeqC.start ?_
    refine SeqC.open rfl rfl rfl rfl rfl rfl rfl (fun hcx => Runs.move rfl rfl) ?_
    refine SeqC.next rfl rfl rfl rfl rfl rfl rfl (fun hcx => Runs.lenL rfl rfl Try.underlying9) ?_
    refine SeqC.next rfl rfl rfl rfl rfl rfl rfl (fun hcx => Runs.move rfl rfl) ?_
    refine SeqC.next rfl rfl rfl rfl rfl rfl rfl (fun hcx => Runs.subI rfl rfl rfl (by omega) (by omega)) ?_
    refine SeqC.next rfl rfl rfl rfl rfl rfl rfl (fun hcx => Runs.eqlI rfl rfl rfl) ?_
    refine SeqC.next rfl rfl rfl rfl rfl rfl rfl (fun hcx => Runs.move rfl rfl) ?_
    refine SeqC.open rfl rfl rfl rfl rfl rfl rfl (fun hcx => Runs.move rfl rfl) ?_
    refine SeqC.next rfl rfl rfl rfl rfl rfl rfl (fun hcx => Runs.move rfl rfl) ?_
    refine SeqC.next rfl rfl rfl rfl rfl rfl rfl (fun hcx => Runs.addI rfl rfl rfl (by omega) (by omega)) ?_
    refine SeqC.next rfl rfl rfl rfl rfl rfl rfl (fun hcx => Runs.indexL (l := l) (j := p + 10) (c := c10) rfl rfl rfl Try.underlying9 rfl (h10 (by simp [topX] at hcx; omega)) h10b) ?_
    refine SeqC.nextC rfl rfl rfl rfl rfl rfl rfl (fun hcx => Enters.func rfl rfl rfl (run_enter Try.func53 (by kernel_rfl) rfl)) (fun hcx => refPart_any c10 _) ?_
    intro w2 hw2
    replace bel := bel.step hw2
    replace own := own.step hw2
    refine SeqC.next rfl rfl rfl rfl rfl rfl rfl (fun hcx => Runs.not rfl rfl) ?_
    refine SeqC.orG rfl rfl rfl rfl rfl rfl rfl rfl rfl rfl rfl ?_
    refine SeqC.and rfl rfl rfl rfl rfl rfl rfl ?_
    refine Seq.nil ?_
    refine Post.weak (F' := [(0, _), (4, _), (5, _), (6, _), (14, _), (27, _), (31, _), (72, _)]) ⟨rfl, rfl, rfl, rfl, rfl, rfl, rfl, rfl, trivial⟩ ?_
    refine Post.then_ ?_
    refine Cd.cond rfl (fun h => ?_) (fun h => ?_)
    · have hyes : dayOk (l.drop p) = true := by
        cases hdo : dateOk ((l.drop p).take 10) <;> cases hpo : partB c10 <;> rw [hdo, hpo] at h <;> rw [hday, hdo, hpo] <;> simp at h ⊢ <;> omega
      have hdo : dateOk ((l.drop p).take 10) = true := by rw [hday] at hyes; simp at hyes; exact hyes.2
      have h10p : 10 ≤ l.length - p := by rw [hday] at hyes; simp at hyes; omega
      have hlT := hDlen h10p
      rw [hnx, hdd hyes, if_pos rfl, if_pos hyes] at hstep
      clear h hnx hdd
      generalize hT : (l.drop p).take 10 = T at *
      refine Cd.seq ?_
      refine Cd.draw 14 (by kernel_rfl) [0] (.inr (fun _ _ d _ _ h => by cases d <;> exact h)) rfl Grow Grow.refl (fun _ _ _ => Grow.trans) ?_
      intro w3 hw3 zw3
      replace bel := bel.step hw3
      replace own := own.step hw3
      have zbel := bel.size
      refine Dr.late rfl rfl (fun w => Runs.move rfl rfl) Grow.refl rfl ?_
      refine Dr.val Grow.refl rfl (fun w hG => Runs.move rfl rfl) rfl ?_
      refine Dr.val Grow.refl rfl (fun w hG => Runs.move rfl rfl) rfl ?_
      refine Dr.val Grow.refl rfl (fun w hG => Runs.move rfl rfl) rfl ?_
      refine Dr.val Grow.refl rfl (fun w hG => Runs.addI rfl rfl rfl (by omega) (by omega)) rfl ?_
      refine Dr.val Grow.refl rfl (fun w hG => Runs.sliceAtL (i := p) (j := p + 10) rfl rfl rfl rfl Try.underlying9 rfl (by omega) (by omega) (by omega)) rfl ?_
      refine Dr.val Grow.refl rfl (fun w hG => Runs.move rfl rfl) rfl ?_
      refine Dr.val Grow.refl rfl (fun w hG => Runs.move rfl rfl) rfl ?_
      refine Dr.val Grow.refl rfl (fun w hG => Runs.move rfl rfl) rfl ?_
      refine Dr.val Grow.refl rfl (fun w hG => Runs.addI rfl rfl rfl (by omega) (by omega)) rfl ?_
      refine Dr.val Grow.refl rfl (fun w hG => Runs.sliceAtL (i := p) (j := p + 10) rfl rfl rfl rfl Try.underlying9 rfl (by omega) (by omega) (by omega)) rfl ?_
      rw [hD]
      refine Dr.callV rfl (fun w => Enters.func rfl rfl rfl (run_enter Try.func52 (by kernel_rfl) rfl)) rfl (fun w hG => refDayParse_any T _ hDl hDn) ?_
      refine Dr.val Grow.refl rfl (fun w hG => Runs.move rfl rfl) rfl ?_
      rw [hdo, if_pos rfl]
      refine Dr.val Grow.refl rfl (fun w hG => Runs.build rfl rfl (run_build_RWord _ _ _ _ _)) rfl ?_
      refine Dr.nil ?_
      refine FinX.done (F' := [(0, _), (4, _), (5, _), (6, _), (14, _), (27, _), (31, _), (72, _), (73, _), (86, _)]) rfl ⟨rfl, rfl, rfl, rfl, rfl, rfl, rfl, rfl, rfl, rfl, trivial⟩ ?_
      intro w4 hw4 fw4
      replace bel := bel.step hw4
      replace own := own.step hw4
      refine Seq.slice (vs := [_]) (s := 4) rfl rfl rfl Try.underlying43 (by kernel_rfl) (zero_debentureref17_Word) (by omega) (by omega) ⟨rfl, trivial⟩ rfl rfl rfl ?_
      intro g87 w5 n87
      have e87 := Nat.le_trans bel.size n87.ge
      replace bel := bel.step n87.below
      replace own := own.step n87.below
      have k87 := n87.blk
      replace own := own.own
      refine Seq.append rfl rfl rfl Try.underlying43 (by kernel_rfl) zero_debentureref17_Word rfl (by decide) (b := 40) (by kernel_rfl) own (Reads.blk (size := 4) k87 1 rfl) (by intro x hx; simp [flatC, Value.cells] at hx; rcases hx with rfl | rfl | rfl | rfl <;> rfl) bel.size (by simp only [maxLen]; omega) (by omega) rfl rfl rfl ?_
      clear own
      intro vw6 w6 own haw6
      replace bel := bel.trans haw6.below
      replace own : OwnA w6 w.heap.size 90 4 vw6 (ws ++ [(⟨2, T, dateZ T, p⟩ : Wd)]).length (wdCells (ws ++ [⟨2, T, dateZ T, p⟩])) := ⟨by rw [List.length_append, wdCells_snoc]; exact own⟩
      rw [hstep] at hall
      dsimp only at hall
      rw [hlT] at hall
      refine Seq.val (Runs.assign rfl rfl) rfl rfl rfl ?_
      refine Seq.nil ?_
      refine Post.weak (F' := [(0, _), (4, _), (5, _), (6, _), (14, _), (27, _), (31, _), (72, _)]) ⟨rfl, rfl, rfl, rfl, rfl, rfl, rfl, rfl, trivial⟩ ?_
      refine Post.then_ ?_
      refine Cd.seq ?_
      refine Cd.region ?_
      refine Seq.val (Runs.move rfl rfl) rfl rfl rfl ?_
      refine Seq.val (Runs.addI rfl rfl rfl (by omega) (by omega)) rfl rfl rfl ?_
      refine Seq.val (Runs.assign rfl rfl) rfl rfl rfl ?_
      refine Seq.nil ?_
      refine Post.weak (F' := [(0, _), (4, _), (5, _), (6, _), (14, _), (27, _), (31, _), (72, _)]) ⟨rfl, rfl, rfl, rfl, rfl, rfl, rfl, rfl, trivial⟩ ?_
      refine Post.then_ ?_
      refine Cd.exit ?_
      refine Post.then_exit ?_
      refine Post.block_exit ?_
      refine Post.round (p + 10, vw6, ws ++ [⟨2, T, dateZ T, p⟩]) ⟨rfl, rfl, rfl, trivial⟩ ⟨by dsimp only; omega, by dsimp only; rw [List.length_append]; simp; omega, ⟨f', by dsimp only; omega, ?_⟩, bel, own⟩ (by dsimp only; omega)
      dsimp only
      rw [hall, List.append_assoc]
      rfl
    have hno : dayOk (l.drop p) = false := by
      rw [hday]
      cases hdo : dateOk ((l.drop p).take 10) <;> cases hpo : partB c10 <;> rw [hdo, hpo] at h <;> simp at h ⊢ <;> first | (have := (hz0 hdo).1; omega) | omega
    rw [hno] at hnx
    clear h hdd hD hDl hDn hz0 hday h10 h10b hDlen hno
    have hrl := runN_le partB (l.drop p)
    rw [hdn] at hrl
    have hrn := runN_upto partB (l.drop p)
    have hpos : partB c = true → 0 < runN partB (l.drop p) := fun h => by rw [hdrop, runN_cons, if_pos h]; omega
    have hnm : letB c = true → namedB ((l.drop p).take (runN partB (l.drop p))) = decide (runN partB (l.drop p) ≤ 16) := fun h => by rw [hdrop]; exact named_run c _ h
    generalize hR : runN partB (l.drop p) = R at *
    refine Cd.skip ?_
    refine Post.then_ ?_
    refine Cd.seq ?_
    refine Cd.region ?_
    refine Seq.val (Runs.move rfl rfl) rfl rfl rfl ?_
    refine Seq.val (Runs.assign rfl rfl) rfl rfl rfl ?_
    refine Seq.nil ?_
    refine Post.weak (F' := [(0, _), (4, _), (5, _), (6, _), (7, _), (14, _), (27, _), (31, _), (72, _)]) ⟨rfl, rfl, rfl, rfl, rfl, rfl, rfl, rfl, rfl, trivial⟩ ?_
    refine Post.then_ ?_
    refine Cd.seq ?_
    refine Cd.block ?_
    refine Cd.loop (σ := Nat) (fun j => [(0, .string (strOf l)), (4, v), (5, .int .i64 (p : Int)), (6, .int .u8 (c : Int)), (7, .int .i64 ((p + j : Nat) : Int))])
      (fun j wr => j ≤ R ∧ Below w.heap.size w wr ∧ OwnA wr w.heap.size 90 4 v ws.length (wdCells ws)) (fun j => l.length - j) 0 ⟨Nat.zero_le _, bel, own⟩ ⟨rfl, rfl, rfl, rfl, rfl, trivial⟩ ?_
    clear bel own
    rintro j wr2 ⟨hj, bel, own⟩
    have hcd : ∃ d, (p + j < l.length → l[p + j]? = some d) ∧ d < 256 ∧ (p + j < l.length → (partB d = true ↔ j < R)) := by
      rcases Nat.lt_or_ge (p + j) l.length with h | h
      · have hd : l[p + j]? = some l[p + j] := List.getElem?_eq_getElem h
        exact ⟨_, fun _ => hd, hl _ (List.getElem_mem h), fun _ => hrn j hj _ (by rw [List.getElem?_drop]; exact hd)⟩
      · exact ⟨0, fun h2 => absurd h2 (by omega), by omega, fun h2 => absurd h2 (by omega)⟩
    obtain ⟨d, hd1, hd2, hd3⟩ := hcd
    refine Cd.seq ?_
    refine Cd.seq ?_
    refine Cd.region ?_
    refine Seq.val (Runs.move rfl rfl) rfl rfl rfl ?_
    refine Seq.val (Runs.move rfl rfl) rfl rfl rfl ?_
    refine Seq.val (Runs.lenL rfl rfl Try.underlying9) rfl rfl rfl ?_
    refine Seq.val (Runs.lss rfl rfl rfl) rfl rfl rfl ?_
    refine Seq.val (Runs.move rfl rfl) rfl rfl rfl ?_
    refine SeqC.start ?_
    refine SeqC.open rfl rfl rfl rfl rfl rfl rfl (fun hcx => Runs.move rfl rfl) ?_
    refine SeqC.next rfl rfl rfl rfl rfl rfl rfl (fun hcx => Runs.move rfl rfl) ?_
    refine SeqC.next rfl rfl rfl rfl rfl rfl rfl (fun hcx => Runs.indexL (l := l) (j := p + j) (c := d) rfl rfl rfl Try.underlying9 rfl (hd1 (by simp at hcx; omega)) hd2) ?_
    refine SeqC.nextC rfl rfl rfl rfl rfl rfl rfl (fun hcx => Enters.func rfl rfl rfl (run_enter Try.func53 (by kernel_rfl) rfl)) (fun hcx => refPart_any d _) ?_
    intro w3 hw3
    replace bel := bel.step hw3
    replace own := own.step hw3
    refine SeqC.and rfl rfl rfl rfl rfl rfl rfl ?_
    refine Seq.nil ?_
    refine Post.weak (F' := [(0, _), (4, _), (5, _), (6, _), (7, _), (101, _)]) ⟨rfl, rfl, rfl, rfl, rfl, rfl, trivial⟩ ?_
    refine Post.then_ ?_
    refine Cd.cond rfl (fun h => ?_) (fun h => ?_)
    · have hlt : p + j < l.length ∧ j < R := by
        simp at h
        exact ⟨by omega, (hd3 (by omega)).1 h.2⟩
      refine Cd.skip ?_
      refine Post.then_ ?_
      refine Cd.block ?_
      refine Cd.region ?_
      refine Seq.val (Runs.move rfl rfl) rfl rfl rfl ?_
      refine Seq.val (Runs.addI rfl rfl rfl (by omega) (by omega)) rfl rfl rfl ?_
      refine Seq.val (Runs.assign rfl rfl) rfl rfl rfl ?_
      refine Seq.nil ?_
      refine Post.weak (F' := [(0, _), (4, _), (5, _), (6, _), (7, _), (101, _)]) ⟨rfl, rfl, rfl, rfl, rfl, rfl, trivial⟩ ?_
      refine Post.block_normal ?_
      exact Post.round (j + 1) ⟨rfl, rfl, rfl, rfl, congrArg (fun x : Int => some (Value.int .i64 x)) (show ((p + j : Nat) : Int) + 1 = ((p + (j + 1) : Nat) : Int) by omega), trivial⟩ ⟨by omega, bel, own⟩ (by omega)
    obtain rfl : j = R := by
      simp at h
      rcases Nat.lt_or_ge (p + j) l.length with h2 | h2
      · have h4 := hd3 h2
        rcases Nat.lt_or_ge j R with h3 | h3
        · have h5 := h4.2 h3
          rw [h (by omega)] at h5
          cases h5
        · omega
      · omega
    clear h hd1 hd2 hd3 hrn
    have hT : (l.take (p + j)).drop p = (l.drop p).take j := by rw [List.drop_take, Nat.add_sub_cancel_left]
    have hTl := take_lt hdl j
    have hTn : ((l.drop p).take j).length = j := by rw [List.length_take]; omega
    refine Cd.exit ?_
    refine Post.then_exit ?_
    refine Post.round_exit ?_
    refine Post.block_exit ?_
    refine Post.then_ ?_
    refine Cd.seq ?_
    refine Cd.region ?_
    refine Seq.val (Runs.move rfl rfl) rfl rfl rfl ?_
    refine Seq.val (Runs.move rfl rfl) rfl rfl rfl ?_
    refine Seq.val (Runs.move rfl rfl) rfl rfl rfl ?_
    refine Seq.val (Runs.sliceAtL (i := p) (j := p + j) rfl rfl rfl rfl Try.underlying9 rfl (by omega) (by omega) (by omega)) rfl rfl rfl ?_
    rw [hT]
    have hTc : 0 < j → ∃ r, (l.drop p).take j = c :: r := fun h => by
      obtain ⟨m, rfl⟩ : ∃ m, j = m + 1 := ⟨j - 1, by omega⟩
      exact ⟨_, by rw [hdrop]; rfl⟩
    generalize (l.drop p).take j = T at *
    refine Seq.val (Runs.assign rfl rfl) rfl rfl rfl ?_
    refine Seq.nil ?_
    refine Post.weak (F' := [(0, _), (4, _), (5, _), (6, _), (7, _), (8, _), (101, _)]) ⟨rfl, rfl, rfl, rfl, rfl, rfl, rfl, trivial⟩ ?_
    refine Post.then_ ?_
    refine Cd.seq ?_
    refine Cd.block ?_
    refine Cd.seq ?_
    refine Cd.region ?_
    refine Seq.val (Runs.move rfl rfl) rfl rfl rfl ?_
    refine Seq.val (Runs.geq rfl rfl rfl) rfl rfl rfl ?_
    refine Seq.val (Runs.move rfl rfl) rfl rfl rfl ?_
    refine SeqC.start ?_
    refine SeqC.open rfl rfl rfl rfl rfl rfl rfl (fun hcx => Runs.move rfl rfl) ?_
    refine SeqC.next rfl rfl rfl rfl rfl rfl rfl (fun hcx => Runs.leq rfl rfl rfl) ?_
    refine SeqC.and rfl rfl rfl rfl rfl rfl rfl ?_
    refine Seq.val (Runs.assign rfl rfl) rfl rfl rfl ?_
    refine Seq.nil ?_
    refine Post.weak (F' := [(0, _), (4, _), (5, _), (6, _), (7, _), (8, _), (101, _), (121, _)]) ⟨rfl, rfl, rfl, rfl, rfl, rfl, rfl, rfl, trivial⟩ ?_
    refine Post.then_ ?_
    refine Cd.cond rfl (fun h => ?_) (fun h => ?_)
    · have hdg : digB c = true := by unfold digB; simp at h ⊢; omega
      have hj0 := hpos (by unfold partB; rw [hdg]; simp)
      obtain ⟨r, hr⟩ := hTc hj0
      rw [if_pos hdg, if_neg (by simp)] at hnx
      clear h
      refine Cd.seq ?_
      refine Cd.region ?_
      refine Seq.val (Runs.move rfl rfl) rfl rfl rfl ?_
      refine Seq.call (Enters.func rfl rfl rfl (run_enter Try.func54 (by kernel_rfl) rfl)) rfl rfl rfl (refAmount_any T 0 _ hTl ⟨by omega, by omega⟩) ?_
      rintro e w7 ⟨x, ok, rfl, hamt, hb7⟩
      refine ⟨_, rfl, ?_⟩
      rw [amt0_of hamt c r hr hdg] at hnx
      replace bel := bel.step hb7
      replace own := own.step hb7
      refine Seq.val (Runs.move rfl rfl) rfl rfl rfl ?_
      refine Seq.val (Runs.extract rfl rfl rfl) rfl rfl rfl ?_
      refine Seq.val (Runs.extract rfl rfl rfl) rfl rfl rfl ?_
      refine Seq.val (Runs.assign rfl rfl) rfl rfl rfl ?_
      refine Seq.val (Runs.assign rfl rfl) rfl rfl rfl ?_
      refine Seq.nil ?_
      refine Post.weak (F' := [(0, _), (4, _), (5, _), (6, _), (7, _), (8, _), (9, _), (10, _), (101, _), (121, _)]) ⟨rfl, rfl, rfl, rfl, rfl, rfl, rfl, rfl, rfl, rfl, trivial⟩ ?_
      refine Post.then_ ?_
      refine Cd.seq ?_
      refine Cd.seq ?_
      refine Cd.region ?_
      refine Seq.val (Runs.move rfl rfl) rfl rfl rfl ?_
      refine Seq.val (Runs.not rfl rfl) rfl rfl rfl ?_
      refine Seq.nil ?_
      refine Post.weak (F' := [(0, _), (4, _), (5, _), (6, _), (7, _), (8, _), (9, _), (10, _), (101, _), (121, _), (134, _)]) ⟨rfl, rfl, rfl, rfl, rfl, rfl, rfl, rfl, rfl, rfl, rfl, trivial⟩ ?_
      refine Post.then_ ?_
      refine Cd.cond rfl (fun h => ?_) (fun h => ?_)
      · obtain rfl : ok = false := by cases ok <;> simp at h ⊢
        rw [lexW_none (by omega) hnx] at hall
        refine Cd.seq ?_
        refine Cd.region ?_
        refine Seq.val (Runs.move rfl rfl) rfl rfl rfl ?_
        refine Seq.val (Runs.assign rfl rfl) rfl rfl rfl ?_
        refine Seq.val (Runs.assign rfl rfl) rfl rfl rfl ?_
        refine Seq.nil ?_
        refine Post.weak (F' := [(0, _), (2, _), (3, _), (4, _), (5, _), (6, _), (7, _), (8, _), (9, _), (10, _), (101, _), (121, _), (134, _)]) ⟨rfl, rfl, rfl, rfl, rfl, rfl, rfl, rfl, rfl, rfl, rfl, rfl, rfl, trivial⟩ ?_
        refine Post.then_ ?_
        refine Cd.ret ?_
        refine Post.then_ret ?_
        refine Post.block_ret ?_
        refine Post.then_ret ?_
        refine Post.block_ret ?_
        refine Post.round_ret ?_
        refine Post.block_ret ?_
        refine Post.then_ret ?_
        refine Post.end2 rfl rfl rfl (.inl rfl) ?_
        exact ⟨bel, .inl ⟨p, by rw [hall], rfl⟩⟩
      · obtain rfl : ok = true := by cases ok <;> simp at h ⊢
        rw [lexW_some (by omega) (show nextW (l.drop p) = some (1, T, x) from hnx), hTn] at hall
        refine Cd.skip ?_
        refine Post.then_ ?_
        refine Cd.region ?_
        refine Seq.val (Runs.move rfl rfl) rfl rfl rfl ?_
        refine Seq.val (Runs.move rfl rfl) rfl rfl rfl ?_
        refine Seq.val (Runs.move rfl rfl) rfl rfl rfl ?_
        refine Seq.val (Runs.move rfl rfl) rfl rfl rfl ?_
        refine Seq.val (Runs.build rfl rfl (run_build_RWord _ _ _ _ _)) rfl rfl rfl ?_
        refine Seq.slice (vs := [_]) (s := 4) rfl rfl rfl Try.underlying43 (by kernel_rfl) (zero_debentureref17_Word) (by omega) (by omega) ⟨rfl, trivial⟩ rfl rfl rfl ?_
        intro g141 w4 n141
        have e141 := Nat.le_trans bel.size n141.ge
        replace bel := bel.step n141.below
        replace own := own.step n141.below
        have k141 := n141.blk
        replace own := own.own
        refine Seq.append rfl rfl rfl Try.underlying43 (by kernel_rfl) zero_debentureref17_Word rfl (by decide) (b := 40) (by kernel_rfl) own (Reads.blk (size := 4) k141 1 rfl) (by intro x hx; simp [flatC, Value.cells] at hx; rcases hx with rfl | rfl | rfl | rfl <;> rfl) bel.size (by simp only [maxLen]; omega) (by omega) rfl rfl rfl ?_
        clear own
        intro vw5 w5 own haw5
        replace bel := bel.trans haw5.below
        replace own : OwnA w5 w.heap.size 90 4 vw5 (ws ++ [(⟨1, T, x, p⟩ : Wd)]).length (wdCells (ws ++ [⟨1, T, x, p⟩])) := ⟨by rw [List.length_append, wdCells_snoc]; exact own⟩
        refine Seq.val (Runs.assign rfl rfl) rfl rfl rfl ?_
        refine Seq.nil ?_
        refine Post.weak (F' := [(0, _), (4, _), (5, _), (6, _), (7, _), (8, _), (9, _), (10, _), (101, _), (121, _), (134, _)]) ⟨rfl, rfl, rfl, rfl, rfl, rfl, rfl, rfl, rfl, rfl, rfl, trivial⟩ ?_
        refine Post.block_normal ?_
        refine Post.then_ ?_
        refine Cd.region ?_
        refine Seq.val (Runs.move rfl rfl) rfl rfl rfl ?_
        refine Seq.val (Runs.move rfl rfl) rfl rfl rfl ?_
        refine Seq.val (Runs.lenL rfl rfl Try.underlying9) rfl rfl rfl ?_
        refine Seq.val (Runs.addI rfl rfl rfl (by omega) (by omega)) rfl rfl rfl ?_
        refine Seq.val (Runs.assign rfl rfl) rfl rfl rfl ?_
        refine Seq.nil ?_
        refine Post.weak (F' := [(0, _), (4, _), (5, _), (6, _), (7, _), (8, _), (9, _), (10, _), (101, _), (121, _), (134, _)]) ⟨rfl, rfl, rfl, rfl, rfl, rfl, rfl, rfl, rfl, rfl, rfl, trivial⟩ ?_
        refine Post.block_normal ?_
        refine Post.round (p + j, vw5, ws ++ [⟨1, T, x, p⟩]) ⟨rfl, rfl, congrArg (fun x : Int => some (Value.int .i64 x)) (by omega), trivial⟩ ⟨by dsimp only; omega, by dsimp only; rw [List.length_append]; simp; omega, ⟨f', by dsimp only; omega, ?_⟩, bel, own⟩ (by dsimp only; omega)
        dsimp only
        rw [hall, List.append_assoc]
        rfl
    have hdg : digB c = false := by unfold digB; simp at h ⊢; omega
    rw [if_neg (by rw [hdg]; simp)] at hnx
    clear h
    refine Cd.seq ?_
    refine Cd.region ?_
    refine Seq.val (Runs.move rfl rfl) rfl rfl rfl ?_
    refine Seq.call (Enters.func rfl rfl rfl (run_enter Try.func27 (by kernel_rfl) rfl)) rfl rfl rfl (refLetter_any c _) ?_
    rintro e w7 ⟨rfl, hb7⟩
    refine ⟨_, rfl, ?_⟩
    replace bel := bel.step hb7
    replace own := own.step hb7
    refine Seq.val (Runs.assign rfl rfl) rfl rfl rfl ?_
    refine Seq.nil ?_
    refine Post.weak (F' := [(0, _), (4, _), (5, _), (6, _), (7, _), (8, _), (101, _), (121, _), (143, _)]) ⟨rfl, rfl, rfl, rfl, rfl, rfl, rfl, rfl, rfl, trivial⟩ ?_
    refine Post.then_ ?_
    refine Cd.cond rfl (fun hlt => ?_) (fun hlt => ?_)
    · have hj0 := hpos (by unfold partB; rw [hlt]; simp)
      rw [if_pos hlt] at hnx
      have hnm := hnm hlt
      refine Cd.seq ?_
      refine Cd.seq ?_
      refine Cd.region ?_
      refine Seq.val (Runs.move rfl rfl) rfl rfl rfl ?_
      refine Seq.call (Enters.func rfl rfl rfl (run_enter Try.func25 (by kernel_rfl) rfl)) rfl rfl rfl (refNamed_any T _ hTl (by omega)) ?_
      rintro e w8 ⟨rfl, hb8⟩
      refine ⟨_, rfl, ?_⟩
      rw [hnm]
      replace bel := bel.step hb8
      replace own := own.step hb8
      refine Seq.val (Runs.not rfl rfl) rfl rfl rfl ?_
      refine Seq.nil ?_
      refine Post.weak (F' := [(0, _), (4, _), (5, _), (6, _), (7, _), (8, _), (101, _), (121, _), (143, _), (148, _)]) ⟨rfl, rfl, rfl, rfl, rfl, rfl, rfl, rfl, rfl, rfl, trivial⟩ ?_
      refine Post.then_ ?_
      refine Cd.cond rfl (fun h => ?_) (fun h => ?_)
      · rw [if_neg (by simp at h; omega)] at hnx
        rw [lexW_none (by omega) hnx] at hall
        refine Cd.seq ?_
        refine Cd.region ?_
        refine Seq.val (Runs.move rfl rfl) rfl rfl rfl ?_
        refine Seq.val (Runs.assign rfl rfl) rfl rfl rfl ?_
        refine Seq.val (Runs.assign rfl rfl) rfl rfl rfl ?_
        refine Seq.nil ?_
        refine Post.weak (F' := [(0, _), (2, _), (3, _), (4, _), (5, _), (6, _), (7, _), (8, _), (101, _), (121, _), (143, _), (148, _)]) ⟨rfl, rfl, rfl, rfl, rfl, rfl, rfl, rfl, rfl, rfl, rfl, rfl, trivial⟩ ?_
        refine Post.then_ ?_
        refine Cd.ret ?_
        refine Post.then_ret ?_
        refine Post.block_ret ?_
        refine Post.then_ret ?_
        refine Post.block_ret ?_
        refine Post.round_ret ?_
        refine Post.block_ret ?_
        refine Post.then_ret ?_
        refine Post.end2 rfl rfl rfl (.inl rfl) ?_
        exact ⟨bel, .inl ⟨p, by rw [hall], rfl⟩⟩
      · rw [if_pos (by simp at h; omega)] at hnx
        rw [lexW_some (by omega) hnx, hTn] at hall
        refine Cd.skip ?_
        refine Post.then_ ?_
        refine Cd.region ?_
        refine Seq.val (Runs.move rfl rfl) rfl rfl rfl ?_
        refine Seq.val (Runs.move rfl rfl) rfl rfl rfl ?_
        refine Seq.val (Runs.move rfl rfl) rfl rfl rfl ?_
        refine Seq.val (Runs.build rfl rfl (run_build_RWord _ _ _ _ _)) rfl rfl rfl ?_
        refine Seq.slice (vs := [_]) (s := 4) rfl rfl rfl Try.underlying43 (by kernel_rfl) (zero_debentureref17_Word) (by omega) (by omega) ⟨rfl, trivial⟩ rfl rfl rfl ?_
        intro g154 w4 n154
        have e154 := Nat.le_trans bel.size n154.ge
        replace bel := bel.step n154.below
        replace own := own.step n154.below
        have k154 := n154.blk
        replace own := own.own
        refine Seq.append rfl rfl rfl Try.underlying43 (by kernel_rfl) zero_debentureref17_Word rfl (by decide) (b := 40) (by kernel_rfl) own (Reads.blk (size := 4) k154 1 rfl) (by intro x hx; simp [flatC, Value.cells] at hx; rcases hx with rfl | rfl | rfl | rfl <;> rfl) bel.size (by simp only [maxLen]; omega) (by omega) rfl rfl rfl ?_
        clear own
        intro vw5 w5 own haw5
        replace bel := bel.trans haw5.below
        replace own : OwnA w5 w.heap.size 90 4 vw5 (ws ++ [(⟨3, T, 0, p⟩ : Wd)]).length (wdCells (ws ++ [⟨3, T, 0, p⟩])) := ⟨by rw [List.length_append, wdCells_snoc]; exact own⟩
        refine Seq.val (Runs.assign rfl rfl) rfl rfl rfl ?_
        refine Seq.nil ?_
        refine Post.weak (F' := [(0, _), (4, _), (5, _), (6, _), (7, _), (8, _), (101, _), (121, _), (143, _), (148, _)]) ⟨rfl, rfl, rfl, rfl, rfl, rfl, rfl, rfl, rfl, rfl, trivial⟩ ?_
        refine Post.block_normal ?_
        refine Post.then_ ?_
        refine Cd.region ?_
        refine Seq.val (Runs.move rfl rfl) rfl rfl rfl ?_
        refine Seq.val (Runs.move rfl rfl) rfl rfl rfl ?_
        refine Seq.val (Runs.lenL rfl rfl Try.underlying9) rfl rfl rfl ?_
        refine Seq.val (Runs.addI rfl rfl rfl (by omega) (by omega)) rfl rfl rfl ?_
        refine Seq.val (Runs.assign rfl rfl) rfl rfl rfl ?_
        refine Seq.nil ?_
        refine Post.weak (F' := [(0, _), (4, _), (5, _), (6, _), (7, _), (8, _), (101, _), (121, _), (143, _), (148, _)]) ⟨rfl, rfl, rfl, rfl, rfl, rfl, rfl, rfl, rfl, rfl, trivial⟩ ?_
        refine Post.block_normal ?_
        refine Post.round (p + j, vw5, ws ++ [⟨3, T, 0, p⟩]) ⟨rfl, rfl, congrArg (fun x : Int => some (Value.int .i64 x)) (by omega), trivial⟩ ⟨by dsimp only; omega, by dsimp only; rw [List.length_append]; simp; omega, ⟨f', by dsimp only; omega, ?_⟩, bel, own⟩ (by dsimp only; omega)
        dsimp only
        rw [hall, List.append_assoc]
        rfl
    rw [if_neg (by rw [hlt]; simp)] at hnx
    have hslt : ∀ x ∈ (signW (l.drop p)).getD [], x < 256 := by
      cases hs : signW (l.drop p) with
      | none => simp
      | some s => exact signs_lt s (List.mem_of_find?_eq_some hs)
    have hsp : ∀ s, signW (l.drop p) = some s → 0 < s.length ∧ p + s.length ≤ l.length := fun s hs => by
      rw [hs] at hnx
      have := nextW_spec (show nextW (l.drop p) = some (0, s, 0) from hnx)
      omega
    refine Cd.seq ?_
    refine Cd.region ?_
    refine Seq.val (Runs.move rfl rfl) rfl rfl rfl ?_
    refine Seq.val (Runs.move rfl rfl) rfl rfl rfl ?_
    refine Seq.val (Runs.sliceFrom (j := p) rfl rfl rfl Try.underlying9 rfl hp) rfl rfl rfl ?_
    refine Seq.call (Enters.func rfl rfl rfl (run_enter Try.func55 (by kernel_rfl) rfl)) rfl rfl rfl (refSign_any (l.drop p) _ hdl (by omega)) ?_
    rintro e w8 ⟨rfl, hb8⟩
    refine ⟨_, rfl, ?_⟩
    replace bel := bel.step hb8
    replace own := own.step hb8
    refine Seq.val (Runs.assign rfl rfl) rfl rfl rfl ?_
    refine Seq.nil ?_
    refine Post.weak (F' := [(0, _), (4, _), (5, _), (6, _), (7, _), (8, _), (101, _), (121, _), (143, _)]) ⟨rfl, rfl, rfl, rfl, rfl, rfl, rfl, rfl, rfl, trivial⟩ ?_
    refine Post.then_ ?_
    refine Cd.seq ?_
    refine Cd.seq ?_
    refine Cd.region ?_
    refine Seq.val (Runs.move rfl rfl) rfl rfl rfl ?_
    refine Seq.val (Runs.eqlL (a := (signW (l.drop p)).getD []) (b := []) rfl rfl rfl hslt (by simp)) rfl rfl rfl ?_
    refine Seq.nil ?_
    refine Post.weak (F' := [(0, _), (4, _), (5, _), (6, _), (7, _), (8, _), (101, _), (113, _), (121, _), (143, _)]) ⟨rfl, rfl, rfl, rfl, rfl, rfl, rfl, rfl, rfl, rfl, trivial⟩ ?_
    refine Post.then_ ?_
    refine Cd.cond rfl (fun h => ?_) (fun h => ?_)
    · have hs : signW (l.drop p) = none := by
        cases hs : signW (l.drop p) with
        | none => rfl
        | some s =>
          rw [hs] at h
          simp at h
          have := (hsp s hs).1
          rw [h] at this
          simp at this
      rw [hs] at hnx
      rw [lexW_none (by omega) hnx] at hall
      refine Cd.seq ?_
      refine Cd.region ?_
      refine Seq.val (Runs.move rfl rfl) rfl rfl rfl ?_
      refine Seq.val (Runs.assign rfl rfl) rfl rfl rfl ?_
      refine Seq.val (Runs.assign rfl rfl) rfl rfl rfl ?_
      refine Seq.nil ?_
      refine Post.weak (F' := [(0, _), (2, _), (3, _), (4, _), (5, _), (6, _), (7, _), (8, _), (101, _), (113, _), (121, _), (143, _)]) ⟨rfl, rfl, rfl, rfl, rfl, rfl, rfl, rfl, rfl, rfl, rfl, rfl, trivial⟩ ?_
      refine Post.then_ ?_
      refine Cd.ret ?_
      refine Post.then_ret ?_
      refine Post.block_ret ?_
      refine Post.then_ret ?_
      refine Post.block_ret ?_
      refine Post.round_ret ?_
      refine Post.block_ret ?_
      refine Post.then_ret ?_
      refine Post.end2 rfl rfl rfl (.inl rfl) ?_
      exact ⟨bel, .inl ⟨p, by rw [hall], rfl⟩⟩
    · obtain ⟨s, hs⟩ : ∃ s, signW (l.drop p) = some s := by
        cases hs : signW (l.drop p) with
        | none => rw [hs] at h; simp at h
        | some s => exact ⟨s, rfl⟩
      obtain ⟨hs1, hs2⟩ := hsp s hs
      rw [hs] at hnx ⊢
      rw [lexW_some (by omega) (show nextW (l.drop p) = some (0, s, 0) from hnx)] at hall
      simp only [Option.getD_some]
      refine Cd.skip ?_
      refine Post.then_ ?_
      refine Cd.region ?_
      refine Seq.val (Runs.move rfl rfl) rfl rfl rfl ?_
      refine Seq.val (Runs.move rfl rfl) rfl rfl rfl ?_
      refine Seq.val (Runs.move rfl rfl) rfl rfl rfl ?_
      refine Seq.val (Runs.build rfl rfl (run_build_RWord _ _ _ _ _)) rfl rfl rfl ?_
      refine Seq.slice (vs := [_]) (s := 4) rfl rfl rfl Try.underlying43 (by kernel_rfl) (zero_debentureref17_Word) (by omega) (by omega) ⟨rfl, trivial⟩ rfl rfl rfl ?_
      intro g119 w4 n119
      have e119 := Nat.le_trans bel.size n119.ge
      replace bel := bel.step n119.below
      replace own := own.step n119.below
      have k119 := n119.blk
      replace own := own.own
      refine Seq.append rfl rfl rfl Try.underlying43 (by kernel_rfl) zero_debentureref17_Word rfl (by decide) (b := 40) (by kernel_rfl) own (Reads.blk (size := 4) k119 1 rfl) (by intro x hx; simp [flatC, Value.cells] at hx; rcases hx with rfl | rfl | rfl | rfl <;> rfl) bel.size (by simp only [maxLen]; omega) (by omega) rfl rfl rfl ?_
      clear own
      intro vw5 w5 own haw5
      replace bel := bel.trans haw5.below
      replace own : OwnA w5 w.heap.size 90 4 vw5 (ws ++ [(⟨0, s, 0, p⟩ : Wd)]).length (wdCells (ws ++ [⟨0, s, 0, p⟩])) := ⟨by rw [List.length_append, wdCells_snoc]; exact own⟩
      refine Seq.val (Runs.assign rfl rfl) rfl rfl rfl ?_
      refine Seq.nil ?_
      refine Post.weak (F' := [(0, _), (4, _), (5, _), (6, _), (7, _), (8, _), (101, _), (113, _), (121, _), (143, _)]) ⟨rfl, rfl, rfl, rfl, rfl, rfl, rfl, rfl, rfl, rfl, trivial⟩ ?_
      refine Post.block_normal ?_
      refine Post.then_ ?_
      refine Cd.region ?_
      refine Seq.val (Runs.move rfl rfl) rfl rfl rfl ?_
      refine Seq.val (Runs.move rfl rfl) rfl rfl rfl ?_
      refine Seq.val (Runs.lenL rfl rfl Try.underlying9) rfl rfl rfl ?_
      refine Seq.val (Runs.addI rfl rfl rfl (by omega) (by omega)) rfl rfl rfl ?_
      refine Seq.val (Runs.assign rfl rfl) rfl rfl rfl ?_
      refine Seq.nil ?_
      refine Post.weak (F' := [(0, _), (4, _), (5, _), (6, _), (7, _), (8, _), (101, _), (113, _), (121, _), (143, _)]) ⟨rfl, rfl, rfl, rfl, rfl, rfl, rfl, rfl, rfl, rfl, trivial⟩ ?_
      refine Post.block_normal ?_
      refine Post.round (p + s.length, vw5, ws ++ [⟨0, s, 0, p⟩]) ⟨rfl, rfl, congrArg (fun x : Int => some (Value.int .i64 x)) (by omega), trivial⟩ ⟨by dsimp only; omega, by dsimp only; rw [List.length_append]; simp; omega, ⟨f', by dsimp only; omega, ?_⟩, bel, own⟩ (by dsimp only; omega)
      dsimp only
      rw [hall, List.append_assoc]
      rfl
  · obtain rfl : p = l.length := by omega
    have hb0 := blankN_le (l.drop l.length)
    rw [List.length_drop] at hb0
    rw [lexW_end f l _ (by omega)] at hall
    dsimp only at hall
    rw [List.append_nil] at hall
    refine Cd.exit ?_
    refine Post.then_exit ?_
    refine Post.round_exit ?_
    refine Post.block_exit ?_
    refine Post.then_ ?_
    refine Cd.seq ?_
    refine Cd.region ?_
    refine Seq.val (Runs.move rfl rfl) rfl rfl rfl ?_
    refine Seq.val (Runs.assign rfl rfl) rfl rfl rfl ?_
    refine Seq.val (Runs.assign rfl rfl) rfl rfl rfl ?_
    refine Seq.nil ?_
    refine Post.weak (F' := [(0, _), (2, _), (3, _), (4, _), (5, _), (14, _)]) ⟨rfl, rfl, rfl, rfl, rfl, rfl, trivial⟩ ?_
    refine Post.then_ ?_
    refine Cd.ret ?_
    refine Post.end2 rfl rfl rfl (.inl rfl) ?_
    exact ⟨bel, .inr ⟨by rw [hall], v, rfl, by rw [hall]; exact own.own⟩⟩
end Go.Proofs.Ytijaldpmpjapiaa
