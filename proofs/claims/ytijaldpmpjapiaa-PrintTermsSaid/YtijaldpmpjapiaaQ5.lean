/-
  Texts that were joined: TrmO, TrmP, TOpen. Conditions: what each theorem names.
-/
import Derived.Test.YtijaldpmpjapiaaQ4
import Derived.ProofKit
import Derived.OpenShut
import Derived.Lib.SmallJoins
import Derived.Deep.Slices
import Derived.Deep.Fields
import Derived.ChangeSame
set_option linter.unusedSectionVars false
namespace Go.Proofs.Ytijaldpmpjapiaa
open Go.RowKit

theorem line_any (B g g3 d : Nat) (bs : List Nat) (W : World) (hd : d ≤ 60) (k3 : Blk W g3 77 #[.pointer (some ⟨g, 0, none⟩)]) (wr : Bw W B g bs) (hl : bs.length ≤ 900000000) :
    Calls Try.prog 103 #[.int .i64 (d : Int), .pointer (some ⟨g3, 0, none⟩)] W (WrRet B g (bs ++ ([10] ++ blanksT d)) W) := by
  have wt := Wt.refl B W
  have hbl := blanksT_len d
  have hrep : ∀ W', Calls Try.prog 104 #[.string (strOf [32, 32]), .int .i64 (d : Int)] W' fun e w' => e = .returned (.string (strOf (blanksT d))) ∧ Grow W' w' := fun W' => repeat_any d W' hd
  refine Calls.start 10 Try.func103 rfl rfl rfl ?_
  refine Cd.draw 6 (by kernel_rfl) [] (.inl rfl) rfl Grow Grow.refl (fun _ _ _ => Grow.trans) ?_
  intro w1 hw1 zw1
  replace wt := wt.step hw1
  replace wr := wr.step hw1
  replace k3 := k3.step hw1
  have zlt := k3.lt
  refine Dr.val Grow.refl rfl (fun w hG => Runs.loadB rfl rfl Try.underlying77 rfl (k3.step hG) rfl) rfl ?_
  refine Dr.val Grow.refl rfl (fun w hG => Runs.nilCheck rfl rfl) rfl ?_
  refine Dr.val Grow.refl rfl (fun w hG => Runs.fieldB 0 rfl rfl Try.underlying112 rfl (by kernel_rfl)) rfl ?_
  refine Dr.val Grow.refl rfl (fun w hG => Runs.move rfl rfl) rfl ?_
  refine Dr.callV rfl (fun w => Enters.func rfl rfl rfl (run_enter Try.func104 (by kernel_rfl) rfl)) rfl (fun w hG => hrep w) ?_
  refine Dr.val Grow.refl rfl (fun w hG => Runs.addL (a := [10]) rfl rfl rfl (by simp only [List.length_cons, List.length_nil]; omega)) rfl ?_
  refine Dr.nil ?_
  refine FinX.done (F' := [(0, _), (1, _), (5, _), (8, _)]) rfl ⟨rfl, rfl, rfl, rfl, trivial⟩ ?_
  intro w2 hw2 fw2
  replace wt := wt.step hw2
  replace wr := wr.step hw2
  replace k3 := k3.step hw2
  refine Seq.call (Enters.func rfl rfl rfl (run_enter Try.func78 (by kernel_rfl) rfl)) rfl rfl rfl ((writeS_both B g ([10] ++ blanksT d) bs _ wr (fun x hx => by rcases List.mem_append.1 hx with hx | hx; exact (show ∀ x ∈ [10], x < 256 by decide) x hx; exact blanksT_lt d x hx) (by simp only [List.length_append, List.length_cons, List.length_nil]; omega)).1) ?_
  clear wr
  rintro e w3 ⟨⟨_, rfl⟩, fw3, wr⟩
  refine ⟨_, rfl, ?_⟩
  replace wt := wt.wt fw3
  refine Seq.nil ?_
  refine Post.weak (F' := [(0, _), (1, _)]) ⟨rfl, rfl, trivial⟩ ?_
  refine Post.end0 rfl (.inr rfl) ?_
  exact ⟨⟨_, rfl⟩, wt, wr⟩
theorem eg_line : ∀ args w, (callFunc 103 args).run Try.prog w = .ok (.enter 103 args) w := fun args w => run_enter Try.func103 (by kernel_rfl) rfl args w
theorem eg_lines2 : ∀ args w, (callFunc 105 args).run Try.prog w = .ok (.enter 105 args) w := fun args w => run_enter Try.func105 (by kernel_rfl) rfl args w
theorem rowsT_expr {d : Nat} {t : Tm} {i : Nat} {x : Ex} (h : t.exprs[i]? = some x) : (rowsT d t)[i]? = some (exprT x) := by
  have := (List.getElem?_eq_some_iff.1 h).1
  unfold rowsT
  rw [List.getElem?_append_left (by simp; omega), List.getElem?_map, h]; rfl
theorem rowsT_term {d : Nat} {t : Tm} {k : Nat} {x : Tm} (h : t.terms[k]? = some x) : (rowsT d t)[t.exprs.length + k]? = some (linesT (d + 1) x) := by
  unfold rowsT
  rw [List.getElem?_append_right (by simp), List.length_map, Nat.add_sub_cancel_left, List.getElem?_map, h]; rfl
/-- What is known of the terms within. -/
def RecS (B g L d : Nat) (t : Tm) : Prop := ∀ (x : Tm) (A1 A2 : Option Addr) (c1 c2 : Nat), x ∈ t.terms → ∀ (W : World) (bs' : List Nat), RepB W B x (.agg (tmV x A1 A2 c1 c2).toArray) → Bw W B g bs' → bs'.length ≤ L → Calls Try.prog 61 #[.pointer (some ⟨g, 0, none⟩), .agg (tmV x A1 A2 c1 c2).toArray, .int .i64 ((d + 1 : Nat) : Int)] W (WrRet B g (bs' ++ linesT (d + 1) x) W)
theorem linesArg_of (B g L g7 g8 d c1 c2 : Nat) (A1 A2 : Option Addr) (t x : Tm) (bs : List Nat) (W : World) (h : RecS B g L d t) (hx : x ∈ t.terms) (hd : d ≤ 60) (hr : RepB W B x (.agg (tmV x A1 A2 c1 c2).toArray)) (k7 : Blk W g7 77 #[.pointer (some ⟨g, 0, none⟩)]) (k8 : Blk W g8 3 #[.int .i64 (d : Int)]) (wr : Bw W B g bs) (hL : bs.length ≤ L) :
    Calls Try.prog 105 #[.agg #[.int .i64 x.op, .string (strOf x.name), .slice A1 x.exprs.length c1, .slice A2 x.terms.length c2], .pointer (some ⟨g7, 0, none⟩), .pointer (some ⟨g8, 0, none⟩)] W (WrRet B g (bs ++ linesT (d + 1) x) W) := by
  have hBW := wr.size
  have wt := Wt.refl B W
  have hc : ∀ W', Below B W W' → Bw W' B g bs → Calls Try.prog 61 #[.pointer (some ⟨g, 0, none⟩), .agg #[.int .i64 x.op, .string (strOf x.name), .slice A1 x.exprs.length c1, .slice A2 x.terms.length c2], .int .i64 ((d : Int) + 1)] W' (WrRet B g (bs ++ linesT (d + 1) x) W') := fun W' hb hw => h x A1 A2 c1 c2 hx W' bs (hr.below hb) hw hL
  refine Calls.start 9 Try.func105 rfl rfl rfl ?_
  refine Cd.seq ?_
  refine Cd.region ?_
  refine Seq.box rfl rfl rfl rfl rfl ?_
  intro g3 w1 n3
  have l3 := Nat.lt_of_lt_of_le k8.lt n3.ge
  replace wt := wt.step n3.below
  replace wr := wr.step n3.below
  replace k7 := k7.step n3.below
  replace k8 := k8.step n3.below
  have k3 := n3.blk
  refine Seq.nil ?_
  refine Post.weak (F' := [(0, _), (1, _), (2, _), (3, _)]) ⟨rfl, rfl, rfl, rfl, trivial⟩ ?_
  refine Post.then_ ?_
  refine Cd.region ?_
  refine Seq.val (Runs.loadB rfl rfl Try.underlying77 rfl k7 rfl) rfl rfl rfl ?_
  refine Seq.val (Runs.loadW rfl rfl Try.underlying57 rfl k3 (m := 4) (by kernel_rfl) rfl) rfl rfl rfl ?_
  refine Seq.val (Runs.loadB rfl rfl Try.underlying3 rfl k8 rfl) rfl rfl rfl ?_
  refine Seq.val (Runs.addI rfl rfl rfl (by omega) (by omega)) rfl rfl rfl ?_
  refine Seq.call (Enters.func rfl rfl rfl (run_enter Try.func61 (by kernel_rfl) rfl)) rfl rfl rfl (hc _ (wt.to hBW) wr) ?_
  clear wr
  rintro e w2 ⟨⟨_, rfl⟩, fw2, wr⟩
  refine ⟨_, rfl, ?_⟩
  replace wt := wt.wt fw2
  refine Seq.nil ?_
  refine Post.weak (F' := [(0, _), (1, _), (2, _), (3, _)]) ⟨rfl, rfl, rfl, rfl, trivial⟩ ?_
  refine Post.end0 rfl (.inr rfl) ?_
  exact ⟨⟨_, rfl⟩, wt, wr⟩
theorem linesW_any (N : Nat) : ∀ (t : Tm) (B g d : Nat) (bs : List Nat) (v : Value) (w : World), t.nodes ≤ N → t.nodes ≤ 200 → builtT t = true → d + t.depth ≤ 50 → RepB w B t v → Bw w B g bs → bs.length + 100000 * t.depth ≤ 50000000 →
    Calls Try.prog 61 #[.pointer (some ⟨g, 0, none⟩), v, .int .i64 (d : Int)] w (WrRet B g (bs ++ linesT d t) w) := by
  induction N with
  | zero => intro t B g d bs v w hN; have := t.nodes_pos; omega
  | succ N ih =>
  intro t B g d bs v w hN h200 hbt hdd hrep hbw hbs
  obtain ⟨A, c, A', c', rfl, hv⟩ := hrep.open
  obtain ⟨hh, hexp, hter⟩ := builtT_inv hbt
  obtain ⟨a1, a2, a3⟩ := (headTB_iff _ _ _ _).1 hh
  obtain ⟨p1, p2, p3, p4⟩ := arT_op a1
  have hBW := hbw.size
  have hT := linesT_eq d t
  have hbd := linesT_bd t.nodes t d (Nat.le_refl _) hbt hdd
  have h60 := hv.h60
  have h61 := hv.h60'
  have hdp0 : 0 < t.depth := by have := t.depth_eq; omega
  have hrec : RecS B g (bs.length + 60000) d t := fun x A1 A2 c1 c2 hx W bs' hr hw hl => by
    have hnd := Tm.term_nodes hx
    have hdp := Tm.term_depth hx
    exact ih x B g (d + 1) bs' _ W (by omega) (by omega) (hter x hx) (by omega) hr hw (by omega)
  have wt := Wt.refl B w
  have wr := hbw
  refine Calls.start 57 Try.func61 rfl rfl rfl ?_
  refine Cd.seq ?_
  refine Cd.region ?_
  refine Seq.box rfl rfl rfl rfl rfl ?_
  intro g3 w1 n3
  replace wt := wt.step n3.below
  replace wr := wr.step n3.below
  have k3 := n3.blk
  refine Seq.box rfl rfl rfl rfl rfl ?_
  intro g4 w2 n4
  have l4 := Nat.lt_of_lt_of_le k3.lt n4.ge
  replace wt := wt.step n4.below
  replace wr := wr.step n4.below
  replace k3 := k3.step n4.below
  have k4 := n4.blk
  refine Seq.box rfl rfl rfl rfl rfl ?_
  intro g5 w3 n5
  have l5 := Nat.lt_of_lt_of_le k4.lt n5.ge
  replace wt := wt.step n5.below
  replace wr := wr.step n5.below
  replace k3 := k3.step n5.below
  replace k4 := k4.step n5.below
  have k5 := n5.blk
  refine Seq.nil ?_
  refine Post.weak (F' := [(0, _), (1, _), (2, _), (3, _), (4, _), (5, _)]) ⟨rfl, rfl, rfl, rfl, rfl, rfl, trivial⟩ ?_
  refine Post.then_ ?_
  refine Cd.seq ?_
  refine Cd.seq ?_
  refine Cd.region ?_
  refine Seq.val (Runs.fieldB 3 rfl rfl Try.underlying57 rfl (by kernel_rfl)) rfl rfl rfl ?_
  refine Seq.val (Runs.loadB rfl rfl Try.underlying27 rfl k4 rfl) rfl rfl rfl ?_
  refine Seq.val (Runs.len rfl rfl Try.underlying27) rfl rfl rfl ?_
  refine Seq.val (Runs.eqlI rfl rfl rfl) rfl rfl rfl ?_
  refine Seq.nil ?_
  refine Post.weak (F' := [(0, _), (1, _), (2, _), (3, _), (4, _), (5, _), (11, _)]) ⟨rfl, rfl, rfl, rfl, rfl, rfl, rfl, trivial⟩ ?_
  refine Post.then_ ?_
  refine Cd.condD rfl (fun h0 => ?_) (fun h0 => ?_)
  · have hnil : t.terms = [] := List.eq_nil_of_length_eq_zero (by omega)
    rw [if_pos hnil] at hT
    have hterm := termW_any t.nodes t B g bs _ _ (Nat.le_refl _) h200 hbt (hrep.below (wt.to hBW)) wr hbs
    refine Cd.seq ?_
    refine Cd.region ?_
    refine Seq.val (Runs.loadB rfl rfl Try.underlying77 rfl k3 rfl) rfl rfl rfl ?_
    refine Seq.val (Runs.loadW rfl rfl Try.underlying57 rfl k4 (m := 4) (by kernel_rfl) rfl) rfl rfl rfl ?_
    refine Seq.call (Enters.func rfl rfl rfl (run_enter Try.func59 (by kernel_rfl) rfl)) rfl rfl rfl (hterm) ?_
    clear wr
    rintro e w4 ⟨⟨_, rfl⟩, fw4, wr⟩
    refine ⟨_, rfl, ?_⟩
    replace wt := wt.wt fw4
    refine Seq.nil ?_
    refine Post.weak (F' := [(0, _), (1, _), (2, _), (3, _), (4, _), (5, _), (11, _)]) ⟨rfl, rfl, rfl, rfl, rfl, rfl, rfl, trivial⟩ ?_
    refine Post.then_ ?_
    refine Cd.ret ?_
    refine Post.then_ret ?_
    refine Post.end0 rfl (.inl rfl) ?_
    rw [hT]
    exact ⟨⟨_, rfl⟩, wt, wr⟩
  have hne : t.terms ≠ [] := fun h => h0 (by rw [h]; rfl)
  rw [if_neg hne] at hT
  have hbl := hbd.1
  rw [hT] at hbl
  simp only [List.length_append, List.length_cons, List.length_nil, blanksT_len] at hbl
  have hrl : (rowsT d t).length = t.exprs.length + t.terms.length := by unfold rowsT; simp
  have hwl := wordT_len t.op
  have hword : ∀ W, Calls Try.prog 100 #[.int .i64 t.op] W fun e w' => e = .returned (.string (strOf (wordT t.op))) ∧ Grow W w' := fun W => printWord_any t.op W p1 p2
  obtain ⟨n, hn⟩ : ∃ n, n = t.exprs.length + t.terms.length := ⟨_, rfl⟩
  refine Cd.skip ?_
  refine Post.then_ ?_
  refine Cd.seq ?_
  refine Cd.region ?_
  refine Seq.val (Runs.makeFunc (v := .func (.func 103) #[] #[.pointer (some ⟨g3, 0, none⟩)]) rfl (show evL _ _ = some [] from rfl) (show evL _ _ = some [.pointer (some ⟨g3, 0, none⟩)] from rfl) rfl) rfl rfl rfl ?_
  refine Seq.val (Runs.assign rfl rfl) rfl rfl rfl ?_
  refine Seq.nil ?_
  refine Post.weak (F' := [(0, _), (1, _), (2, _), (3, _), (4, _), (5, _), (6, _), (11, _)]) ⟨rfl, rfl, rfl, rfl, rfl, rfl, rfl, rfl, trivial⟩ ?_
  refine Post.then_ ?_
  refine Cd.seq ?_
  refine Cd.draw 7 (by kernel_rfl) [] (.inl rfl) rfl Grow Grow.refl (fun _ _ _ => Grow.trans) ?_
  intro w4 hw4 zw4
  replace wt := wt.step hw4
  replace wr := wr.step hw4
  replace k3 := k3.step hw4
  replace k4 := k4.step hw4
  replace k5 := k5.step hw4
  have zlt := k5.lt
  refine Dr.val Grow.refl rfl (fun w hG => Runs.loadB rfl rfl Try.underlying77 rfl (k3.step hG) rfl) rfl ?_
  refine Dr.val Grow.refl rfl (fun w hG => Runs.nilCheck rfl rfl) rfl ?_
  refine Dr.val Grow.refl rfl (fun w hG => Runs.fieldB 0 rfl rfl Try.underlying112 rfl (by kernel_rfl)) rfl ?_
  refine Dr.val Grow.refl rfl (fun w hG => Runs.fieldB 0 rfl rfl Try.underlying57 rfl (by kernel_rfl)) rfl ?_
  refine Dr.val Grow.refl rfl (fun w hG => Runs.loadB rfl rfl Try.underlying3 rfl (k4.step hG) rfl) rfl ?_
  refine Dr.callV rfl (fun w => Enters.func rfl rfl rfl (run_enter Try.func100 (by kernel_rfl) rfl)) rfl (fun w hG => hword w) ?_
  refine Dr.val Grow.refl rfl (fun w hG => Runs.addL (b := [40]) rfl rfl rfl (by simp only [List.length_cons, List.length_nil]; omega)) rfl ?_
  refine Dr.nil ?_
  refine FinX.done (F' := [(0, _), (1, _), (2, _), (3, _), (4, _), (5, _), (6, _), (11, _), (18, _), (22, _)]) rfl ⟨rfl, rfl, rfl, rfl, rfl, rfl, rfl, rfl, rfl, rfl, trivial⟩ ?_
  intro w5 hw5 fw5
  replace wt := wt.step hw5
  replace wr := wr.step hw5
  replace k3 := k3.step hw5
  replace k4 := k4.step hw5
  replace k5 := k5.step hw5
  refine Seq.call (Enters.func rfl rfl rfl (run_enter Try.func78 (by kernel_rfl) rfl)) rfl rfl rfl ((writeS_both B g (wordT t.op ++ [40]) bs _ wr (fun x hx => by rcases List.mem_append.1 hx with hx | hx; exact hwl.2 x hx; exact (show ∀ x ∈ [40], x < 256 by decide) x hx) (by simp only [List.length_append, List.length_cons, List.length_nil]; omega)).1) ?_
  clear wr
  rintro e w6 ⟨⟨_, rfl⟩, fw6, wr⟩
  refine ⟨_, rfl, ?_⟩
  replace wt := wt.wt fw6
  replace k3 := k3.wt fw6
  replace k4 := k4.wt fw6
  replace k5 := k5.wt fw6
  obtain ⟨pre, hpre⟩ : ∃ pre, pre = bs ++ (wordT t.op ++ [40]) := ⟨_, rfl⟩
  have hprel : pre.length ≤ bs.length + 8 := by rw [hpre]; simp only [List.length_append, List.length_cons, List.length_nil]; omega
  rw [← hpre] at wr
  refine Seq.nil ?_
  refine Post.weak (F' := [(0, _), (1, _), (2, _), (3, _), (4, _), (5, _), (6, _), (11, _)]) ⟨rfl, rfl, rfl, rfl, rfl, rfl, rfl, rfl, trivial⟩ ?_
  refine Post.then_ ?_
  refine Cd.seq ?_
  refine Cd.seq ?_
  refine Cd.region ?_
  refine Seq.val (Runs.fieldB 2 rfl rfl Try.underlying57 rfl (by kernel_rfl)) rfl rfl rfl ?_
  refine Seq.val (Runs.loadB rfl rfl Try.underlying25 rfl k4 rfl) rfl rfl rfl ?_
  refine Seq.val (Runs.len rfl rfl Try.underlying25) rfl rfl rfl ?_
  refine Seq.val (Runs.fieldB 3 rfl rfl Try.underlying57 rfl (by kernel_rfl)) rfl rfl rfl ?_
  refine Seq.val (Runs.loadB rfl rfl Try.underlying27 rfl k4 rfl) rfl rfl rfl ?_
  refine Seq.val (Runs.len rfl rfl Try.underlying27) rfl rfl rfl ?_
  refine Seq.val (Runs.addI rfl rfl rfl (by omega) (by omega)) rfl rfl rfl ?_
  refine Seq.val (Runs.move rfl rfl) rfl rfl rfl ?_
  refine Seq.nil ?_
  refine Post.weak (F' := [(0, _), (1, _), (2, _), (3, _), (4, _), (5, _), (6, _), (11, _), (30, _), (31, _)]) ⟨rfl, rfl, rfl, rfl, rfl, rfl, rfl, rfl, rfl, rfl, trivial⟩ ?_
  refine Post.then_ ?_
  refine Cd.block ?_
  refine Cd.loop (σ := Nat) (fun k => [(3, .pointer (some ⟨g3, 0, none⟩)), (4, .pointer (some ⟨g4, 0, none⟩)), (5, .pointer (some ⟨g5, 0, none⟩)), (6, .func (.func 103) #[] #[.pointer (some ⟨g3, 0, none⟩)]), (30, .int .i64 (n : Int)), (31, .int .i64 (k : Int))]) (fun k wr' => k ≤ n ∧ Wt B w wr' ∧ Blk wr' g3 77 #[.pointer (some ⟨g, 0, none⟩)] ∧ Blk wr' g4 57 #[.int .i64 t.op, .string (strOf t.name), .slice A t.exprs.length c, .slice A' t.terms.length c'] ∧ Blk wr' g5 3 #[.int .i64 (d : Int)] ∧ Bw wr' B g (pre ++ segs (blanksT (d + 1)) ((rowsT d t).take k))) (fun k => n - k) 0 ⟨Nat.zero_le _, wt, k3, k4, k5, by simpa [segs] using wr⟩ ⟨rfl, rfl, rfl, rfl, congrArg (fun x : Int => some (Value.int .i64 x)) (show ((t.exprs.length : Int) + (t.terms.length : Int)) = ((n : Nat) : Int) by omega), rfl, trivial⟩ ?_
  clear wt wr k3 k4 k5
  rintro k w9 ⟨hk, wt, k3, k4, k5, wr⟩
  have hbk := segs_take (blanksT (d + 1)) (rowsT d t) k
  refine Cd.seq ?_
  refine Cd.region ?_
  refine Seq.val (Runs.lss rfl rfl rfl) rfl rfl rfl ?_
  refine Seq.nil ?_
  refine Post.weak (F' := [(3, _), (4, _), (5, _), (6, _), (30, _), (31, _), (32, _)]) ⟨rfl, rfl, rfl, rfl, rfl, rfl, rfl, trivial⟩ ?_
  refine Post.then_ ?_
  refine Cd.seq ?_
  refine Cd.condD rfl (fun hc => ?_) (fun hc => ?_)
  · obtain ⟨u, hu⟩ : ∃ u, (rowsT d t)[k]? = some u := ⟨_, List.getElem?_eq_getElem (by omega)⟩
    have htk : (rowsT d t).take (k + 1) = (rowsT d t).take k ++ [u] := by rw [List.take_add_one, hu]; rfl
    have hbk1 := segs_take (blanksT (d + 1)) (rowsT d t) (k + 1)
    rw [htk, segs_snoc] at hbk1
    simp only [List.length_append, List.length_cons, List.length_nil, blanksT_len] at hbk1
    have hsl := segs_snoc (blanksT (d + 1)) ((rowsT d t).take k) u
    have hparts : ∀ (W : World) (bs' : List Nat), Wt B w W → Blk W g3 77 #[.pointer (some ⟨g, 0, none⟩)] → Blk W g5 3 #[.int .i64 (d : Int)] → Bw W B g bs' → bs'.length ≤ bs.length + 60000 → Calls Try.prog 102 #[.pointer (some ⟨g, 0, none⟩), .agg #[.int .i64 t.op, .string (strOf t.name), .slice A t.exprs.length c, .slice A' t.terms.length c'], .int .i64 (k : Int), .func (.func 105) #[] #[.pointer (some ⟨g3, 0, none⟩), .pointer (some ⟨g5, 0, none⟩)]] W (WrRet B g (bs' ++ u) W) := fun W bs' hwt h3 h5 hwr hlen =>
      part_term B g k t A A' c c' 105 [] [.pointer (some ⟨g3, 0, none⟩), .pointer (some ⟨g5, 0, none⟩)] bs' u W (hv.below (hwt.to hBW)) h200 hbt hwr (by omega) eg_lines2 (by omega)
        (fun x hx => by rw [rowsT_expr hx] at hu; injection hu with hu; exact hu.symm)
        (fun q x A1 A2 c1 c2 hx hik W' hwt' hr hw => by
          rw [hik, rowsT_term hx] at hu
          injection hu with hu
          subst hu
          exact linesArg_of B g (bs.length + 60000) g3 g5 d c1 c2 A1 A2 t x bs' W' hrec (List.mem_of_getElem? hx) (by omega) hr (h3.wt hwt') (h5.wt hwt') hw hlen)
    refine Cd.skip ?_
    refine Post.then_ ?_
    refine Cd.seq ?_
    refine Cd.block ?_
    refine Cd.seq ?_
    refine Cd.region ?_
    refine Seq.val (Runs.move rfl rfl) rfl rfl rfl ?_
    refine Seq.val (Runs.assign rfl rfl) rfl rfl rfl ?_
    refine Seq.nil ?_
    refine Post.weak (F' := [(3, _), (4, _), (5, _), (6, _), (7, _), (30, _), (31, _), (32, _)]) ⟨rfl, rfl, rfl, rfl, rfl, rfl, rfl, rfl, trivial⟩ ?_
    refine Post.then_ ?_
    refine Cd.seq ?_
    refine Cd.seq ?_
    refine Cd.region ?_
    refine Seq.val (Runs.move rfl rfl) rfl rfl rfl ?_
    refine Seq.val (Runs.gtr rfl rfl rfl) rfl rfl rfl ?_
    refine Seq.nil ?_
    refine Post.weak (F' := [(3, _), (4, _), (5, _), (6, _), (7, _), (30, _), (31, _), (32, _), (35, _)]) ⟨rfl, rfl, rfl, rfl, rfl, rfl, rfl, rfl, rfl, trivial⟩ ?_
    refine Post.then_ ?_
    refine Cd.condD rfl (fun hc => ?_) (fun hc => ?_)
    · have hne2 : (rowsT d t).take k ≠ [] := fun h0 => by have := congrArg List.length h0; rw [List.length_take, List.length_nil] at this; omega
      rw [if_neg hne2] at hsl
      refine Cd.region ?_
      refine Seq.val (Runs.loadB rfl rfl Try.underlying77 rfl k3 rfl) rfl rfl rfl ?_
      refine Seq.val (Runs.nilCheck rfl rfl) rfl rfl rfl ?_
      refine Seq.val (Runs.fieldB 0 rfl rfl Try.underlying112 rfl (by kernel_rfl)) rfl rfl rfl ?_
      refine Seq.call (Enters.func rfl rfl rfl (run_enter Try.func78 (by kernel_rfl) rfl)) rfl rfl rfl ((writeS_both B g [44] _ _ wr (by decide) (by simp only [List.length_append, List.length_cons, List.length_nil]; omega)).1) ?_
      clear wr
      rintro e w7 ⟨⟨_, rfl⟩, fw7, wr⟩
      refine ⟨_, rfl, ?_⟩
      replace wt := wt.wt fw7
      replace k3 := k3.wt fw7
      replace k4 := k4.wt fw7
      replace k5 := k5.wt fw7
      refine Seq.nil ?_
      refine Post.weak (F' := [(3, _), (4, _), (5, _), (6, _), (7, _), (30, _), (31, _), (32, _), (35, _)]) ⟨rfl, rfl, rfl, rfl, rfl, rfl, rfl, rfl, rfl, trivial⟩ ?_
      refine Post.then_ ?_
      refine Cd.seq ?_
      refine Cd.region ?_
      refine Seq.val (Runs.move rfl rfl) rfl rfl rfl ?_
      refine Seq.val (Runs.loadB rfl rfl Try.underlying3 rfl k5 rfl) rfl rfl rfl ?_
      refine Seq.val (Runs.addI rfl rfl rfl (by omega) (by omega)) rfl rfl rfl ?_
      refine Seq.call (Enters.value (first := []) (cap := [.pointer (some ⟨g3, 0, none⟩)]) rfl rfl rfl eg_line) rfl rfl rfl (line_any B g g3 (d + 1) _ _ (by omega) k3 wr (by simp only [List.length_append, List.length_cons, List.length_nil]; omega)) ?_
      clear wr
      rintro e w10 ⟨⟨_, rfl⟩, f10, wr⟩
      refine ⟨_, rfl, ?_⟩
      replace k3 := k3.wt f10
      replace k4 := k4.wt f10
      replace k5 := k5.wt f10
      replace wt := wt.wt f10
      refine Seq.nil ?_
      refine Post.weak (F' := [(3, _), (4, _), (5, _), (6, _), (7, _), (30, _), (31, _), (32, _), (35, _)]) ⟨rfl, rfl, rfl, rfl, rfl, rfl, rfl, rfl, rfl, trivial⟩ ?_
      refine Post.then_ ?_
      refine Cd.region ?_
      refine Seq.val (Runs.loadB rfl rfl Try.underlying77 rfl k3 rfl) rfl rfl rfl ?_
      refine Seq.val (Runs.loadW rfl rfl Try.underlying57 rfl k4 (m := 4) (by kernel_rfl) rfl) rfl rfl rfl ?_
      refine Seq.val (Runs.move rfl rfl) rfl rfl rfl ?_
      refine Seq.val (Runs.makeFunc (v := .func (.func 105) #[] #[.pointer (some ⟨g3, 0, none⟩), .pointer (some ⟨g5, 0, none⟩)]) rfl (show evL _ _ = some [] from rfl) (show evL _ _ = some [.pointer (some ⟨g3, 0, none⟩), .pointer (some ⟨g5, 0, none⟩)] from rfl) rfl) rfl rfl rfl ?_
      refine Seq.call (Enters.func rfl rfl rfl (run_enter Try.func102 (by kernel_rfl) rfl)) rfl rfl rfl (hparts _ _ wt k3 k5 wr (by simp only [List.length_append, List.length_cons, List.length_nil, blanksT_len]; omega)) ?_
      clear wr
      rintro e w8 ⟨⟨_, rfl⟩, fw8, wr⟩
      refine ⟨_, rfl, ?_⟩
      replace wt := wt.wt fw8
      replace k3 := k3.wt fw8
      replace k4 := k4.wt fw8
      replace k5 := k5.wt fw8
      refine Seq.nil ?_
      refine Post.weak (F' := [(3, _), (4, _), (5, _), (6, _), (7, _), (30, _), (31, _), (32, _), (35, _)]) ⟨rfl, rfl, rfl, rfl, rfl, rfl, rfl, rfl, rfl, trivial⟩ ?_
      refine Post.block_normal ?_
      refine Post.then_ ?_
      refine Cd.region ?_
      refine Seq.val (Runs.addI rfl rfl rfl (by omega) (by omega)) rfl rfl rfl ?_
      refine Seq.val (Runs.move rfl rfl) rfl rfl rfl ?_
      refine Seq.nil ?_
      refine Post.weak (F' := [(3, _), (4, _), (5, _), (6, _), (7, _), (30, _), (31, _), (32, _), (35, _)]) ⟨rfl, rfl, rfl, rfl, rfl, rfl, rfl, rfl, rfl, trivial⟩ ?_
      refine Post.round (k + 1) ⟨rfl, rfl, rfl, rfl, rfl, rfl, trivial⟩ ⟨by omega, wt, k3, k4, k5, ?_⟩ (by omega)
      rw [htk, hsl]
      simpa only [List.append_assoc] using wr
    · obtain rfl : k = 0 := by omega
      rw [List.take_zero, if_pos rfl] at hsl
      rw [List.take_zero] at wr
      have hs0 : segs (blanksT (d + 1)) [] = [] := rfl
      rw [hs0] at hsl wr
      simp only [List.append_nil, List.nil_append] at hsl wr
      refine Cd.skip ?_
      refine Post.then_ ?_
      refine Cd.seq ?_
      refine Cd.region ?_
      refine Seq.val (Runs.move rfl rfl) rfl rfl rfl ?_
      refine Seq.val (Runs.loadB rfl rfl Try.underlying3 rfl k5 rfl) rfl rfl rfl ?_
      refine Seq.val (Runs.addI rfl rfl rfl (by omega) (by omega)) rfl rfl rfl ?_
      refine Seq.call (Enters.value (first := []) (cap := [.pointer (some ⟨g3, 0, none⟩)]) rfl rfl rfl eg_line) rfl rfl rfl (line_any B g g3 (d + 1) _ _ (by omega) k3 wr (by omega)) ?_
      clear wr
      rintro e w10 ⟨⟨_, rfl⟩, f10, wr⟩
      refine ⟨_, rfl, ?_⟩
      replace k3 := k3.wt f10
      replace k4 := k4.wt f10
      replace k5 := k5.wt f10
      replace wt := wt.wt f10
      refine Seq.nil ?_
      refine Post.weak (F' := [(3, _), (4, _), (5, _), (6, _), (7, _), (30, _), (31, _), (32, _), (35, _)]) ⟨rfl, rfl, rfl, rfl, rfl, rfl, rfl, rfl, rfl, trivial⟩ ?_
      refine Post.then_ ?_
      refine Cd.region ?_
      refine Seq.val (Runs.loadB rfl rfl Try.underlying77 rfl k3 rfl) rfl rfl rfl ?_
      refine Seq.val (Runs.loadW rfl rfl Try.underlying57 rfl k4 (m := 4) (by kernel_rfl) rfl) rfl rfl rfl ?_
      refine Seq.val (Runs.move rfl rfl) rfl rfl rfl ?_
      refine Seq.val (Runs.makeFunc (v := .func (.func 105) #[] #[.pointer (some ⟨g3, 0, none⟩), .pointer (some ⟨g5, 0, none⟩)]) rfl (show evL _ _ = some [] from rfl) (show evL _ _ = some [.pointer (some ⟨g3, 0, none⟩), .pointer (some ⟨g5, 0, none⟩)] from rfl) rfl) rfl rfl rfl ?_
      refine Seq.call (Enters.func rfl rfl rfl (run_enter Try.func102 (by kernel_rfl) rfl)) rfl rfl rfl (hparts _ _ wt k3 k5 wr (by simp only [List.length_append, List.length_cons, List.length_nil, blanksT_len]; omega)) ?_
      clear wr
      rintro e w7 ⟨⟨_, rfl⟩, fw7, wr⟩
      refine ⟨_, rfl, ?_⟩
      replace wt := wt.wt fw7
      replace k3 := k3.wt fw7
      replace k4 := k4.wt fw7
      replace k5 := k5.wt fw7
      refine Seq.nil ?_
      refine Post.weak (F' := [(3, _), (4, _), (5, _), (6, _), (7, _), (30, _), (31, _), (32, _), (35, _)]) ⟨rfl, rfl, rfl, rfl, rfl, rfl, rfl, rfl, rfl, trivial⟩ ?_
      refine Post.block_normal ?_
      refine Post.then_ ?_
      refine Cd.region ?_
      refine Seq.val (Runs.addI rfl rfl rfl (by omega) (by omega)) rfl rfl rfl ?_
      refine Seq.val (Runs.move rfl rfl) rfl rfl rfl ?_
      refine Seq.nil ?_
      refine Post.weak (F' := [(3, _), (4, _), (5, _), (6, _), (7, _), (30, _), (31, _), (32, _), (35, _)]) ⟨rfl, rfl, rfl, rfl, rfl, rfl, rfl, rfl, rfl, trivial⟩ ?_
      refine Post.round 1 ⟨rfl, rfl, rfl, rfl, rfl, rfl, trivial⟩ ⟨by omega, wt, k3, k4, k5, ?_⟩ (by omega)
      rw [htk, List.take_zero, List.nil_append, hsl]
      simpa only [List.append_assoc] using wr
  · obtain rfl : k = n := by omega
    rw [List.take_of_length_le (by omega)] at wr
    refine Cd.exit ?_
    refine Post.then_exit ?_
    refine Post.round_exit ?_
    refine Post.block_exit ?_
    refine Post.then_ ?_
    refine Cd.seq ?_
    refine Cd.region ?_
    refine Seq.val (Runs.move rfl rfl) rfl rfl rfl ?_
    refine Seq.val (Runs.loadB rfl rfl Try.underlying3 rfl k5 rfl) rfl rfl rfl ?_
    refine Seq.call (Enters.value (first := []) (cap := [.pointer (some ⟨g3, 0, none⟩)]) rfl rfl rfl eg_line) rfl rfl rfl (line_any B g g3 d _ _ (by omega) k3 wr (by simp only [List.length_append, List.length_cons, List.length_nil]; omega)) ?_
    clear wr
    rintro e w10 ⟨⟨_, rfl⟩, f10, wr⟩
    refine ⟨_, rfl, ?_⟩
    replace k3 := k3.wt f10
    replace wt := wt.wt f10
    refine Seq.nil ?_
    refine Post.weak (F' := [(3, _), (4, _), (5, _), (6, _), (30, _), (31, _), (32, _)]) ⟨rfl, rfl, rfl, rfl, rfl, rfl, rfl, trivial⟩ ?_
    refine Post.then_ ?_
    refine Cd.region ?_
    refine Seq.val (Runs.loadB rfl rfl Try.underlying77 rfl k3 rfl) rfl rfl rfl ?_
    refine Seq.val (Runs.nilCheck rfl rfl) rfl rfl rfl ?_
    refine Seq.val (Runs.fieldB 0 rfl rfl Try.underlying112 rfl (by kernel_rfl)) rfl rfl rfl ?_
    refine Seq.call (Enters.func rfl rfl rfl (run_enter Try.func78 (by kernel_rfl) rfl)) rfl rfl rfl ((writeS_both B g [41] _ _ wr (by decide) (by simp only [List.length_append, List.length_cons, List.length_nil, blanksT_len]; omega)).1) ?_
    clear wr
    rintro e w7 ⟨⟨_, rfl⟩, fw7, wr⟩
    refine ⟨_, rfl, ?_⟩
    replace wt := wt.wt fw7
    refine Seq.nil ?_
    refine Post.weak (F' := [(3, _), (4, _), (5, _), (6, _), (30, _), (31, _), (32, _)]) ⟨rfl, rfl, rfl, rfl, rfl, rfl, rfl, trivial⟩ ?_
    refine Post.end0 rfl (.inr rfl) ?_
    rw [hT]
    rw [hpre] at wr
    exact ⟨⟨_, rfl⟩, wt, by simpa only [List.append_assoc] using wr⟩
end Go.Proofs.Ytijaldpmpjapiaa

namespace Go.Proofs.Ytijaldpmpjapiaa
open Go.RowKit

theorem termCall_of (t : Tm) (A A' : Option Addr) (B g g1 c c' : Nat) (w W : World) (hbt : builtT t = true) (h200 : t.nodes ≤ 200) (hrep : RepB w B t (.agg #[.int .i64 t.op, .string (strOf t.name), .slice A t.exprs.length c, .slice A' t.terms.length c'])) (hb : Below B w W) (k1 : Blk W g1 57 #[.int .i64 t.op, .string (strOf t.name), .slice A t.exprs.length c, .slice A' t.terms.length c']) (wr : Bw W B g []) :
    Calls Try.prog 58 #[.pointer (some ⟨g, 0, none⟩), .pointer (some ⟨g1, 0, none⟩)] W (WrRet B g (termT t) W) := by
  have hdn := t.depth_nodes
  have hex := termW_any t.nodes t B g [] _ W (Nat.le_refl _) h200 hbt (hrep.below hb) wr (by simp only [List.length_nil]; omega)
  rw [List.nil_append] at hex
  have wt := Wt.refl B W
  refine Calls.start 6 Try.func58 rfl rfl rfl ?_
  refine Cd.region ?_
  refine Seq.val (Runs.move rfl rfl) rfl rfl rfl ?_
  refine Seq.val (Runs.loadW rfl rfl Try.underlying57 rfl k1 (m := 4) (by kernel_rfl) rfl) rfl rfl rfl ?_
  refine Seq.call (Enters.func rfl rfl rfl (run_enter Try.func59 (by kernel_rfl) rfl)) rfl rfl rfl (hex) ?_
  clear wr
  rintro e w1 ⟨⟨_, rfl⟩, fw1, wr⟩
  refine ⟨_, rfl, ?_⟩
  replace wt := wt.wt fw1
  refine Seq.nil ?_
  refine Post.weak (F' := [(0, _), (1, _)]) ⟨rfl, rfl, trivial⟩ ?_
  refine Post.end0 rfl (.inr rfl) ?_
  exact ⟨⟨_, rfl⟩, wt, wr⟩
theorem linesCall_of (t : Tm) (A A' : Option Addr) (B g g1 c c' : Nat) (w W : World) (hbt : builtT t = true) (h200 : t.nodes ≤ 200) (hd : t.depth ≤ 16) (hrep : RepB w B t (.agg #[.int .i64 t.op, .string (strOf t.name), .slice A t.exprs.length c, .slice A' t.terms.length c'])) (hb : Below B w W) (k1 : Blk W g1 57 #[.int .i64 t.op, .string (strOf t.name), .slice A t.exprs.length c, .slice A' t.terms.length c']) (wr : Bw W B g []) :
    Calls Try.prog 60 #[.pointer (some ⟨g, 0, none⟩), .pointer (some ⟨g1, 0, none⟩)] W (WrRet B g (linesT 0 t) W) := by
  have hex := linesW_any t.nodes t B g 0 [] _ W (Nat.le_refl _) h200 hbt (by omega) (hrep.below hb) wr (by simp only [List.length_nil]; omega)
  rw [List.nil_append] at hex
  have hex : Calls Try.prog 61 #[.pointer (some ⟨g, 0, none⟩), .agg #[.int .i64 t.op, .string (strOf t.name), .slice A t.exprs.length c, .slice A' t.terms.length c'], .int .i64 0] W (WrRet B g (linesT 0 t) W) := hex
  have wt := Wt.refl B W
  refine Calls.start 6 Try.func60 rfl rfl rfl ?_
  refine Cd.region ?_
  refine Seq.val (Runs.move rfl rfl) rfl rfl rfl ?_
  refine Seq.val (Runs.loadW rfl rfl Try.underlying57 rfl k1 (m := 4) (by kernel_rfl) rfl) rfl rfl rfl ?_
  refine Seq.call (Enters.func rfl rfl rfl (run_enter Try.func61 (by kernel_rfl) rfl)) rfl rfl rfl (hex) ?_
  clear wr
  rintro e w1 ⟨⟨_, rfl⟩, fw1, wr⟩
  refine ⟨_, rfl, ?_⟩
  replace wt := wt.wt fw1
  refine Seq.nil ?_
  refine Post.weak (F' := [(0, _), (1, _)]) ⟨rfl, rfl, trivial⟩ ?_
  refine Post.end0 rfl (.inr rfl) ?_
  exact ⟨⟨_, rfl⟩, wt, wr⟩
theorem eg_termC : ∀ args w, (callFunc 58 args).run Try.prog w = .ok (.enter 58 args) w := fun args w => run_enter Try.func58 (by kernel_rfl) rfl args w
theorem eg_linesC : ∀ args w, (callFunc 60 args).run Try.prog w = .ok (.enter 60 args) w := fun args w => run_enter Try.func60 (by kernel_rfl) rfl args w
theorem rightT_spec {t : Tm} (h : rightT t = true) : t.nodes ≤ 200 ∧ t.depth ≤ 16 ∧ builtT t = true := by
  unfold rightT at h
  simp at h
  exact ⟨h.1.1, h.1.2, h.2⟩
/-- A right term's text, or none. -/
def textR (t : Tm) : List Nat := if rightT t = true then termT t else []
def linesR (t : Tm) : List Nat := if rightT t = true then linesT 0 t else []
theorem textR_len (t : Tm) : (textR t).length ≤ 1000000 := by
  unfold textR
  split
  · rename_i h
    obtain ⟨h1, h2, h3⟩ := rightT_spec h
    have := (termT_bd t.nodes t (Nat.le_refl _) h3).1
    omega
  · simp
theorem linesR_len (t : Tm) : (linesR t).length ≤ 1000000 := by
  unfold linesR
  split
  · rename_i h
    obtain ⟨h1, h2, h3⟩ := rightT_spec h
    have := (linesT_bd t.nodes t 0 (Nat.le_refl _) h3 (by omega)).1
    omega
  · simp
theorem printTerm_any (t : Tm) (v : Value) (w : World) (hd : t.depth ≤ 900) (hrep : RepB w w.heap.size t v) : Calls Try.prog 28 #[v] w fun en w' => en = .returned (.tuple #[.string (strOf (prText (rightT t) (textR t)).1), .int .i64 (prText (rightT t) (textR t)).2]) ∧ Grow w w' := by
  obtain ⟨A, c, A', c', rfl, hv⟩ := hrep.open
  have bel := Below.refl w.heap.size w
  have hre : ∀ W, Below w.heap.size w W → Calls Try.prog 34 #[.agg #[.int .i64 t.op, .string (strOf t.name), .slice A t.exprs.length c, .slice A' t.terms.length c']] W fun en w' => en = .returned (.bool (rightT t)) ∧ Grow W w' := fun W hb => right_any t w.heap.size _ W hd (hrep.below hb) hb.size
  refine Calls.start 10 Try.func28 rfl rfl rfl ?_
  refine Cd.seq ?_
  refine Cd.region ?_
  refine Seq.box rfl rfl rfl rfl rfl ?_
  intro g1 w1 n1
  have e1 := Nat.le_trans bel.size n1.ge
  replace bel := bel.step n1.below
  have k1 := n1.blk
  refine Seq.val (Runs.assign rfl rfl) rfl rfl rfl ?_
  refine Seq.val (Runs.assign rfl rfl) rfl rfl rfl ?_
  refine Seq.nil ?_
  refine Post.weak (F' := [(0, _), (1, _), (2, _), (3, _)]) ⟨rfl, rfl, rfl, rfl, trivial⟩ ?_
  refine Post.then_ ?_
  refine Cd.seq ?_
  refine Cd.region ?_
  refine Seq.val (Runs.loadW rfl rfl Try.underlying57 rfl k1 (m := 4) (by kernel_rfl) rfl) rfl rfl rfl ?_
  refine Seq.call (Enters.func rfl rfl rfl (run_enter Try.func34 (by kernel_rfl) rfl)) rfl rfl rfl (hre _ bel) ?_
  rintro en w5 ⟨rfl, hb5⟩
  refine ⟨_, rfl, ?_⟩
  replace bel := bel.step hb5
  replace k1 := k1.step hb5
  refine Seq.val (Runs.makeFunc (v := .func (.func 58) #[] #[.pointer (some ⟨g1, 0, none⟩)]) rfl (show evL _ _ = some [] from rfl) (show evL _ _ = some [.pointer (some ⟨g1, 0, none⟩)] from rfl) rfl) rfl rfl rfl ?_
  refine Seq.call (Enters.func rfl rfl rfl (run_enter Try.func40 (by kernel_rfl) rfl)) rfl rfl rfl (printed_any (rightT t) (textR t) 58 [.pointer (some ⟨g1, 0, none⟩)] _ eg_termC (textR_len t) (fun hr W g hb hw => by unfold textR; rw [if_pos hr]; obtain ⟨h1, h2, h3⟩ := rightT_spec hr; exact termCall_of t A A' _ g g1 c c' _ W h3 h1 ((hrep.below bel).more bel.size) hb (k1.step hb) hw)) ?_
  rintro en w6 ⟨rfl, hb6⟩
  refine ⟨_, rfl, ?_⟩
  replace bel := bel.step hb6
  replace k1 := k1.step hb6
  refine Seq.val (Runs.extract rfl rfl rfl) rfl rfl rfl ?_
  refine Seq.val (Runs.extract rfl rfl rfl) rfl rfl rfl ?_
  refine Seq.val (Runs.assign rfl rfl) rfl rfl rfl ?_
  refine Seq.val (Runs.assign rfl rfl) rfl rfl rfl ?_
  refine Seq.nil ?_
  refine Post.weak (F' := [(0, _), (1, _), (2, _), (3, _)]) ⟨rfl, rfl, rfl, rfl, trivial⟩ ?_
  refine Post.then_ ?_
  refine Cd.ret ?_
  refine Post.end2 rfl rfl rfl (.inl rfl) ?_
  exact ⟨rfl, bel⟩
theorem printLines_any (t : Tm) (v : Value) (w : World) (hd : t.depth ≤ 900) (hrep : RepB w w.heap.size t v) : Calls Try.prog 29 #[v] w fun en w' => en = .returned (.tuple #[.string (strOf (prText (rightT t) (linesR t)).1), .int .i64 (prText (rightT t) (linesR t)).2]) ∧ Grow w w' := by
  obtain ⟨A, c, A', c', rfl, hv⟩ := hrep.open
  have bel := Below.refl w.heap.size w
  have hre : ∀ W, Below w.heap.size w W → Calls Try.prog 34 #[.agg #[.int .i64 t.op, .string (strOf t.name), .slice A t.exprs.length c, .slice A' t.terms.length c']] W fun en w' => en = .returned (.bool (rightT t)) ∧ Grow W w' := fun W hb => right_any t w.heap.size _ W hd (hrep.below hb) hb.size
  refine Calls.start 10 Try.func29 rfl rfl rfl ?_
  refine Cd.seq ?_
  refine Cd.region ?_
  refine Seq.box rfl rfl rfl rfl rfl ?_
  intro g1 w1 n1
  have e1 := Nat.le_trans bel.size n1.ge
  replace bel := bel.step n1.below
  have k1 := n1.blk
  refine Seq.val (Runs.assign rfl rfl) rfl rfl rfl ?_
  refine Seq.val (Runs.assign rfl rfl) rfl rfl rfl ?_
  refine Seq.nil ?_
  refine Post.weak (F' := [(0, _), (1, _), (2, _), (3, _)]) ⟨rfl, rfl, rfl, rfl, trivial⟩ ?_
  refine Post.then_ ?_
  refine Cd.seq ?_
  refine Cd.region ?_
  refine Seq.val (Runs.loadW rfl rfl Try.underlying57 rfl k1 (m := 4) (by kernel_rfl) rfl) rfl rfl rfl ?_
  refine Seq.call (Enters.func rfl rfl rfl (run_enter Try.func34 (by kernel_rfl) rfl)) rfl rfl rfl (hre _ bel) ?_
  rintro en w5 ⟨rfl, hb5⟩
  refine ⟨_, rfl, ?_⟩
  replace bel := bel.step hb5
  replace k1 := k1.step hb5
  refine Seq.val (Runs.makeFunc (v := .func (.func 60) #[] #[.pointer (some ⟨g1, 0, none⟩)]) rfl (show evL _ _ = some [] from rfl) (show evL _ _ = some [.pointer (some ⟨g1, 0, none⟩)] from rfl) rfl) rfl rfl rfl ?_
  refine Seq.call (Enters.func rfl rfl rfl (run_enter Try.func40 (by kernel_rfl) rfl)) rfl rfl rfl (printed_any (rightT t) (linesR t) 60 [.pointer (some ⟨g1, 0, none⟩)] _ eg_linesC (linesR_len t) (fun hr W g hb hw => by unfold linesR; rw [if_pos hr]; obtain ⟨h1, h2, h3⟩ := rightT_spec hr; exact linesCall_of t A A' _ g g1 c c' _ W h3 h1 h2 ((hrep.below bel).more bel.size) hb (k1.step hb) hw)) ?_
  rintro en w6 ⟨rfl, hb6⟩
  refine ⟨_, rfl, ?_⟩
  replace bel := bel.step hb6
  replace k1 := k1.step hb6
  refine Seq.val (Runs.extract rfl rfl rfl) rfl rfl rfl ?_
  refine Seq.val (Runs.extract rfl rfl rfl) rfl rfl rfl ?_
  refine Seq.val (Runs.assign rfl rfl) rfl rfl rfl ?_
  refine Seq.val (Runs.assign rfl rfl) rfl rfl rfl ?_
  refine Seq.nil ?_
  refine Post.weak (F' := [(0, _), (1, _), (2, _), (3, _)]) ⟨rfl, rfl, rfl, rfl, trivial⟩ ?_
  refine Post.then_ ?_
  refine Cd.ret ?_
  refine Post.end2 rfl rfl rfl (.inl rfl) ?_
  exact ⟨rfl, bel⟩
theorem greatK_any (n c m d : Nat) (A A' : Option Addr) (w : World) : Calls Try.prog 12 #[.slice A n c, .slice A' m d] w fun e w' => e = .returned (.bool (decide (60 < n) || decide (60 < m))) ∧ Grow w w' := by
  have bel := Below.refl w.heap.size w
  refine Calls.start 13 Try.func12 rfl rfl rfl ?_
  refine Cd.seq ?_
  refine Cd.region ?_
  refine Seq.val (Runs.assign rfl rfl) rfl rfl rfl ?_
  refine Seq.nil ?_
  refine Post.weak (F' := [(0, _), (1, _), (4, _)]) ⟨rfl, rfl, rfl, trivial⟩ ?_
  refine Post.then_ ?_
  refine Cd.seq ?_
  refine Cd.region ?_
  refine Seq.val (Runs.move rfl rfl) rfl rfl rfl ?_
  refine Seq.val (Runs.len rfl rfl Try.underlying22) rfl rfl rfl ?_
  refine Seq.val (Runs.gtr rfl rfl rfl) rfl rfl rfl ?_
  refine Seq.val (Runs.move rfl rfl) rfl rfl rfl ?_
  refine SeqC.start ?_
  refine SeqC.open rfl rfl rfl rfl rfl rfl rfl (fun hcx => Runs.move rfl rfl) ?_
  refine SeqC.next rfl rfl rfl rfl rfl rfl rfl (fun hcx => Runs.len rfl rfl Try.underlying54) ?_
  refine SeqC.next rfl rfl rfl rfl rfl rfl rfl (fun hcx => Runs.gtr rfl rfl rfl) ?_
  refine SeqC.or rfl rfl rfl rfl rfl rfl rfl ?_
  refine Seq.val (Runs.assign rfl rfl) rfl rfl rfl ?_
  refine Seq.nil ?_
  refine Post.weak (F' := [(0, _), (1, _), (4, _)]) ⟨rfl, rfl, rfl, trivial⟩ ?_
  refine Post.then_ ?_
  refine Cd.ret ?_
  refine Post.end1 rfl rfl (.inl rfl) ?_
  have e1 : decide ((60 : Int) < (n : Int)) = decide (60 < n) := by rw [decide_eq_decide]; omega
  have e2 : decide ((60 : Int) < (m : Int)) = decide (60 < m) := by rw [decide_eq_decide]; omega
  exact ⟨ret1 (bool_eq (by simp only [e1, e2])), bel⟩
end Go.Proofs.Ytijaldpmpjapiaa

namespace Go.Proofs.Ytijaldpmpjapiaa
open Go.ChangeShapes Go.WideShapes Go.Deep Go.RowKit

end Go.Proofs.Ytijaldpmpjapiaa

