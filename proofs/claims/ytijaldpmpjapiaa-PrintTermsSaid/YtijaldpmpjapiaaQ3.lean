/-
  Texts that were joined: TreN, TreO, TreP, TrmA, TrmB, TrmC, TrmD, TrmE. Conditions: what each theorem names.
-/
import Derived.Test.YtijaldpmpjapiaaQ2
set_option linter.unusedSectionVars false
namespace Go.Proofs.Ytijaldpmpjapiaa
open Go.RowKit

/-- What is known of the expressions within. -/
def RecW (B g L : Nat) (w : World) (e : Ex) (A : Option Addr) : Prop := ∀ (i : Nat) (x : Ex), e.args[i]? = some x → ∃ ad A' c', A = some ad ∧
  (∀ W, Below B w W → ∀ (j : Nat) (u : Value), ([.int .i64 x.op, .int .i64 x.n, .string (strOf x.name), .slice A' x.args.length c'] : List Value)[j]? = some u → W.cell? ((ad.add (i * 4)).add j) = some u) ∧
  (∀ W bs' least, Below B w W → Bw W B g bs' → I64 least → bs'.length ≤ L → Calls Try.prog 43 #[.pointer (some ⟨g, 0, none⟩), .agg #[.int .i64 x.op, .int .i64 x.n, .string (strOf x.name), .slice A' x.args.length c'], .int .i64 least] W (WrRet B g (bs' ++ inT x least) W))
theorem inT_one (x : Ex) : inT x 1 = exprT x := by
  unfold inT parT
  rw [if_neg (by have := (bindT_len x.op).2.2.1; show ¬ (bindT x.op).2 < 1; omega)]
  rfl
theorem exprArg_of (B g L g3 g4 c i : Nat) (A : Option Addr) (e x : Ex) (bs : List Nat) (w W : World) (h : RecW B g L w e A) (hb : Below B w W) (k3 : Blk W g3 77 #[.pointer (some ⟨g, 0, none⟩)]) (k4 : Blk W g4 35 #[.int .i64 e.op, .int .i64 e.n, .string (strOf e.name), .slice A e.args.length c]) (wr : Bw W B g bs) (hL : bs.length ≤ L) (hx : e.args[i]? = some x) :
    Calls Try.prog 81 #[.int .i64 (i : Int), .pointer (some ⟨g3, 0, none⟩), .pointer (some ⟨g4, 0, none⟩)] W (WrRet B g (bs ++ exprT x) W) := by
  obtain ⟨ad, A', c', rfl, hc, hcall⟩ := h i x hx
  have hi := (List.getElem?_eq_some_iff.1 hx).1
  have hBW := wr.size
  have hcall := fun W' (hb2 : Below W.heap.size W W') (wr' : Bw W' B g bs) => hcall W' bs 1 (hb.trans (hb2.mono hBW)) wr' (by unfold I64; omega) hL
  rw [inT_one] at hcall
  have hc := fun W' (hb2 : Below W.heap.size W W') => hc W' (hb.trans (hb2.mono hBW))
  have bel := Below.refl W.heap.size W
  have wt := Wt.refl B W
  refine Calls.start 11 Try.func81 rfl rfl rfl ?_
  refine Cd.draw 6 (by kernel_rfl) [] (.inl rfl) rfl Grow Grow.refl (fun _ _ _ => Grow.trans) ?_
  intro w1 hw1 zw1
  replace bel := bel.step hw1
  replace wt := wt.step hw1
  replace wr := wr.step hw1
  replace k3 := k3.step hw1
  replace k4 := k4.step hw1
  have zbel := bel.size
  have zlt := k4.lt
  refine Dr.val Grow.refl rfl (fun w hG => Runs.loadB rfl rfl Try.underlying77 rfl (k3.step hG) rfl) rfl ?_
  refine Dr.val Grow.refl rfl (fun w hG => Runs.fieldB 3 rfl rfl Try.underlying35 rfl (by kernel_rfl)) rfl ?_
  refine Dr.val Grow.refl rfl (fun w hG => Runs.loadB rfl rfl Try.underlying25 rfl (k4.step hG) rfl) rfl ?_
  refine Dr.val Grow.refl rfl (fun w hG => Runs.move rfl rfl) rfl ?_
  refine Dr.val Grow.refl rfl (fun w hG => Runs.indexN rfl rfl rfl Try.underlying25 (s := 4) (by kernel_rfl) (j := i) rfl (by omega)) rfl ?_
  refine Dr.val Grow.refl rfl (fun w hG => Runs.loadF (ps := [.int .i64 x.op, .int .i64 x.n, .string (strOf x.name), .slice A' x.args.length c']) rfl rfl Try.underlying35 rfl (m := 4) (by kernel_rfl) rfl (hc _ (bel.step hG))) rfl ?_
  refine Dr.nil ?_
  refine FinX.done (F' := [(0, _), (1, _), (2, _), (4, _), (9, _)]) rfl ⟨rfl, rfl, rfl, rfl, rfl, trivial⟩ ?_
  intro w2 hw2 fw2
  replace bel := bel.step hw2
  replace wt := wt.step hw2
  replace wr := wr.step hw2
  replace k3 := k3.step hw2
  replace k4 := k4.step hw2
  have hcc := hcall _ bel wr
  clear bel
  refine Seq.call (Enters.func rfl rfl rfl (run_enter Try.func43 (by kernel_rfl) rfl)) rfl rfl rfl (hcc) ?_
  clear wr
  rintro e w3 ⟨⟨_, rfl⟩, fw3, wr⟩
  refine ⟨_, rfl, ?_⟩
  replace wt := wt.wt fw3
  refine Seq.nil ?_
  refine Post.weak (F' := [(0, _), (1, _), (2, _)]) ⟨rfl, rfl, rfl, trivial⟩ ?_
  refine Post.end0 rfl (.inr rfl) ?_
  exact ⟨⟨_, rfl⟩, wt, wr⟩
theorem eg_arg : ∀ args w, (callFunc 81 args).run Try.prog w = .ok (.enter 81 args) w := fun args w => run_enter Try.func81 (by kernel_rfl) rfl args w
theorem exprArgs_of (B g L g3 g4 c : Nat) (A : Option Addr) (e : Ex) (word bs : List Nat) (w W : World) (h : RecW B g L w e A) (hb : Below B w W) (k3 : Blk W g3 77 #[.pointer (some ⟨g, 0, none⟩)]) (k4 : Blk W g4 35 #[.int .i64 e.op, .int .i64 e.n, .string (strOf e.name), .slice A e.args.length c]) (wr : Bw W B g bs) (hL : bs.length + 50000 ≤ L) (hL2 : L ≤ 900000000)
    (hw : ∀ d ∈ word, d < 256) (hwl : word.length ≤ 100) (hbt : ∀ x ∈ e.args, builtB x = true) (hn : e.args.length ≤ 1000) (hj : (joinT (e.args.map exprT)).length ≤ 20000) :
    Calls Try.prog 79 #[.string (strOf word), .pointer (some ⟨g3, 0, none⟩), .pointer (some ⟨g4, 0, none⟩)] W (WrRet B g (bs ++ word ++ [40] ++ joinT (e.args.map exprT) ++ [41]) W) := by
  have wt := Wt.refl B W
  have hBW := wr.size
  have hl : (e.args.map exprT).length = e.args.length := List.length_map _
  have hlist := list_any B g 81 e.args.length [.pointer (some ⟨g3, 0, none⟩), .pointer (some ⟨g4, 0, none⟩)] word bs (e.args.map exprT) W wr hw hwl hl hn (fun t ht => by obtain ⟨x, hx, rfl⟩ := List.mem_map.1 ht; exact (exprT_bd x.nodes x (Nat.le_refl _) (hbt x hx)).2) hj (by omega) eg_arg
    (fun i t ht W' bs' hwt hwr hlen => by
      rw [List.getElem?_map] at ht
      cases hx : e.args[i]? with
      | none => rw [hx] at ht; cases ht
      | some x =>
        rw [hx] at ht
        injection ht with ht
        subst ht
        exact exprArg_of B g L g3 g4 c i A e x bs' w W' h (hb.trans (hwt.to hBW)) (k3.wt hwt) (k4.wt hwt) hwr (by omega) hx)
  refine Calls.start 11 Try.func79 rfl rfl rfl ?_
  refine Cd.region ?_
  refine Seq.val (Runs.loadB rfl rfl Try.underlying77 rfl k3 rfl) rfl rfl rfl ?_
  refine Seq.val (Runs.move rfl rfl) rfl rfl rfl ?_
  refine Seq.val (Runs.fieldB 3 rfl rfl Try.underlying35 rfl (by kernel_rfl)) rfl rfl rfl ?_
  refine Seq.val (Runs.loadB rfl rfl Try.underlying25 rfl k4 rfl) rfl rfl rfl ?_
  refine Seq.val (Runs.len rfl rfl Try.underlying25) rfl rfl rfl ?_
  refine Seq.val (Runs.makeFunc (v := .func (.func 81) #[] #[.pointer (some ⟨g3, 0, none⟩), .pointer (some ⟨g4, 0, none⟩)]) rfl (show evL _ _ = some [] from rfl) (show evL _ _ = some [.pointer (some ⟨g3, 0, none⟩), .pointer (some ⟨g4, 0, none⟩)] from rfl) rfl) rfl rfl rfl ?_
  refine Seq.call (Enters.func rfl rfl rfl (run_enter Try.func80 (by kernel_rfl) rfl)) rfl rfl rfl (hlist) ?_
  clear wr
  rintro e w1 ⟨⟨_, rfl⟩, fw1, wr⟩
  refine ⟨_, rfl, ?_⟩
  replace wt := wt.wt fw1
  refine Seq.nil ?_
  refine Post.weak (F' := [(0, _), (1, _), (2, _)]) ⟨rfl, rfl, rfl, trivial⟩ ?_
  refine Post.end0 rfl (.inr rfl) ?_
  exact ⟨⟨_, rfl⟩, wt, wr⟩
theorem eg_args : ∀ args w, (callFunc 79 args).run Try.prog w = .ok (.enter 79 args) w := fun args w => run_enter Try.func79 (by kernel_rfl) rfl args w
theorem eg_write : ∀ args w, (callFunc 78 args).run Try.prog w = .ok (.enter 78 args) w := fun args w => run_enter Try.func78 (by kernel_rfl) rfl args w
/-- Where the ways meet, with the parenthesis or without. -/
def ExJ (Q : Exit → Act → World → Prop) (B g g3 g4 n m : Nat) (bs T : List Nat) (cs : Array Value) (w : World) (I : Inhabited (List Deferred)) (wc : World) : Prop :=
  Wt B w wc ∧ Blk wc g3 77 #[.pointer (some ⟨g, 0, none⟩)] ∧ Blk wc g4 35 cs ∧ ∃ bs0, Bw wc B g bs0 ∧ bs0.length ≤ m ∧ ∀ wx ex, (ex = Exit.ret ∨ ex = Exit.normal) → Wt B w wx → Bw wx B g (bs0 ++ T) → @Post I Q ex n [] wx
theorem Cd.seqE {P : Program} {Q : Exit → Act → World → Prop} {n : Nat} {F : List (Nat × Value)} {wc : World} {x y : Code} (F' : List (Nat × Value)) (B g g3 g4 m : Nat) (bs T : List Nat) (cs : Array Value) (w : World) (hx : Cd P x (Exit.then (JoinD n F' (ExJ Q B g g3 g4 n m bs T cs w)) Q) n F wc) (hy : ∀ I w2, ExJ Q B g g3 g4 n m bs T cs w I w2 → @Cd I P y Q n F' w2) : Cd P (.seq x y) Q n F wc := Cd.seqD F' _ hx hy
theorem exprW_any (N : Nat) : ∀ (e : Ex) (B g : Nat) (bs : List Nat) (v : Value) (least : Int) (w : World), e.nodes ≤ N → e.nodes ≤ 200 → builtB e = true → Rep w B e v → Bw w B g bs → I64 least → bs.length + 100000 * e.depth ≤ 100000000 →
    Calls Try.prog 43 #[.pointer (some ⟨g, 0, none⟩), v, .int .i64 least] w (WrRet B g (bs ++ inT e least) w) := by
  induction N with
  | zero => intro e B g bs v least w hN; have := e.nodes_pos; omega
  | succ N ih =>
  intro e B g bs v least w hN h200 hbt hrep hbw hleast hbs
  obtain ⟨A, c, rfl, hv⟩ := hrep.open
  have hbd := exprT_bd e.nodes e (Nat.le_refl _) hbt
  obtain ⟨hh, hargs⟩ := builtB_inv hbt
  obtain ⟨h1, h2, h3, h4, h5, h6⟩ := headB_inv hh
  obtain ⟨o1, o2, o3, o4, o5, o6⟩ := arity_op h1
  obtain ⟨b1, b2, b3, b4⟩ := bindT_len e.op
  have hBW := hbw.size
  have hT := exprT_eq e
  unfold headT at hT
  have hrec : RecW B g (bs.length + 60000) w e A := fun i x hx => by
    obtain ⟨ad, A', c', e1, e2, e3, e4⟩ := hv.arg i x hx
    have hmem := List.mem_of_getElem? hx
    have hnd := Ex.arg_nodes hmem
    have hdp := Ex.arg_depth hmem
    have hbx := hargs x hmem
    exact ⟨ad, A', c', e1, fun W hb j u hu => (hb.cell (by rw [block_of_add, block_of_add]; omega)).trans (e4 j u hu), fun W bs' least hb hwr hls hlen => ih x B g bs' _ least W (by omega) (by omega) hbx (e3.below hb) hwr hls (by omega)⟩
  have hjl : (joinT (e.args.map exprT)).length ≤ 20000 := by
    have := joinT_len e.args fun z hz => (exprT_bd z.nodes z (Nat.le_refl _) (hargs z hz)).1
    have hn : e.nodes = 1 + nodesL e.args := by cases e; exact Ex.nodes_mk _ _ _ _
    have : e.args.length ≤ 3 := by omega
    omega
  have hl3 : e.args.length ≤ 3 := by omega
  have wt := Wt.refl B w
  have wr := hbw
  refine Calls.startD 114 Try.func43 rfl rfl rfl ?_
  refine Cd.seq ?_
  refine Cd.region ?_
  refine Seq.box rfl rfl rfl rfl rfl ?_
  intro g3 w1 n3
  replace wt := wt.step n3.below
  replace wr := wr.step n3.below
  have k3 := n3.blk
  refine Seq.box rfl rfl rfl rfl rfl ?_
  intro g4 w2 n4
  have l4 := Nat.lt_of_lt_of_le k3.lt n4.ge
  replace wt := wt.step n4.below
  replace wr := wr.step n4.below
  replace k3 := k3.step n4.below
  have k4 := n4.blk
  refine Seq.nil ?_
  refine Post.weak (F' := [(0, _), (1, _), (2, _), (3, _), (4, _)]) ⟨rfl, rfl, rfl, rfl, rfl, trivial⟩ ?_
  refine Post.then_ ?_
  refine Cd.seq ?_
  refine Cd.region ?_
  refine Seq.val (Runs.fieldB 0 rfl rfl Try.underlying35 rfl (by kernel_rfl)) rfl rfl rfl ?_
  refine Seq.val (Runs.loadB rfl rfl Try.underlying3 rfl k4 rfl) rfl rfl rfl ?_
  refine Seq.call (Enters.func rfl rfl rfl (run_enter Try.func77 (by kernel_rfl) rfl)) rfl rfl rfl (opSign_any e.op _) ?_
  rintro en w5 ⟨rfl, hb5⟩
  refine ⟨_, rfl, ?_⟩
  replace wt := wt.step hb5
  replace wr := wr.step hb5
  replace k3 := k3.step hb5
  replace k4 := k4.step hb5
  refine Seq.val (Runs.move rfl rfl) rfl rfl rfl ?_
  refine Seq.val (Runs.extract rfl rfl rfl) rfl rfl rfl ?_
  refine Seq.val (Runs.extract rfl rfl rfl) rfl rfl rfl ?_
  refine Seq.val (Runs.assign rfl rfl) rfl rfl rfl ?_
  refine Seq.val (Runs.assign rfl rfl) rfl rfl rfl ?_
  refine Seq.nil ?_
  refine Post.weak (F' := [(0, _), (1, _), (2, _), (3, _), (4, _), (6, _), (7, _)]) ⟨rfl, rfl, rfl, rfl, rfl, rfl, rfl, trivial⟩ ?_
  refine Post.then_ ?_
  refine Cd.seqE [(3, .pointer (some ⟨g3, 0, none⟩)), (4, .pointer (some ⟨g4, 0, none⟩)), (6, .string (strOf (bindT e.op).1)), (7, .int .i64 (bindT e.op).2)] B g g3 g4 (bs.length + 1) bs (exprT e) #[.int .i64 e.op, .int .i64 e.n, .string (strOf e.name), .slice A e.args.length c] w ?_ ?_
  · skip
    refine Cd.seq ?_
    refine Cd.region ?_
    refine Seq.val (Runs.move rfl rfl) rfl rfl rfl ?_
    refine Seq.val (Runs.move rfl rfl) rfl rfl rfl ?_
    refine Seq.val (Runs.lss rfl rfl rfl) rfl rfl rfl ?_
    refine Seq.nil ?_
    refine Post.weak (F' := [(0, _), (1, _), (2, _), (3, _), (4, _), (6, _), (7, _), (18, _)]) ⟨rfl, rfl, rfl, rfl, rfl, rfl, rfl, rfl, trivial⟩ ?_
    refine Post.then_ ?_
    refine Cd.condD rfl (fun hc => ?_) (fun hc => ?_)
    · have hin : inT e least = [40] ++ exprT e ++ [41] := by
        unfold inT parT
        rw [if_pos (show (pairT e).1 < least from hc)]
        rfl
      refine Cd.seq ?_
      refine Cd.region ?_
      refine Seq.val (Runs.loadB rfl rfl Try.underlying77 rfl k3 rfl) rfl rfl rfl ?_
      refine Seq.val (Runs.nilCheck rfl rfl) rfl rfl rfl ?_
      refine Seq.val (Runs.fieldB 0 rfl rfl Try.underlying112 rfl (by kernel_rfl)) rfl rfl rfl ?_
      refine Seq.call (Enters.func rfl rfl rfl (run_enter Try.func78 (by kernel_rfl) rfl)) rfl rfl rfl ((writeS_both B g [40] bs _ wr (by decide) (by simp only [List.length_cons, List.length_nil]; omega)).1) ?_
      clear wr
      rintro e w3 ⟨⟨_, rfl⟩, fw3, wr⟩
      refine ⟨_, rfl, ?_⟩
      replace wt := wt.wt fw3
      replace k3 := k3.wt fw3
      replace k4 := k4.wt fw3
      refine Seq.nil ?_
      refine Post.weak (F' := [(0, _), (1, _), (2, _), (3, _), (4, _), (6, _), (7, _), (18, _)]) ⟨rfl, rfl, rfl, rfl, rfl, rfl, rfl, rfl, trivial⟩ ?_
      refine Post.then_ ?_
      refine Cd.region ?_
      refine Seq.val (Runs.loadB rfl rfl Try.underlying77 rfl k3 rfl) rfl rfl rfl ?_
      refine Seq.val (Runs.nilCheck rfl rfl) rfl rfl rfl ?_
      refine Seq.val (Runs.fieldB 0 rfl rfl Try.underlying112 rfl (by kernel_rfl)) rfl rfl rfl ?_
      refine Seq.defer_ rfl rfl rfl rfl ?_
      intro I hI
      refine Seq.nil ?_
      refine Post.weak (F' := [(0, _), (1, _), (2, _), (3, _), (4, _), (6, _), (7, _), (18, _)]) ⟨rfl, rfl, rfl, rfl, rfl, rfl, rfl, rfl, trivial⟩ ?_
      refine Post.joinD ⟨rfl, rfl, rfl, rfl, trivial⟩ ⟨wt, k3, k4, bs ++ [40], wr, by simp, fun wx ex hex wtx wrx => ?_⟩
      refine Post.endD1 hI rfl hex eg_write ((writeS_both B g [41] _ wx wrx (by decide) (by simp only [List.length_append, List.length_cons, List.length_nil]; omega)).2 .returning) fun en w' hw => ?_
      refine ⟨hw.1, ⟨_, rfl⟩, wtx.wt hw.2.1, ?_⟩
      rw [hin]
      simpa only [List.append_assoc] using hw.2.2
    · have hin : inT e least = exprT e := by
        unfold inT parT
        rw [if_neg (show ¬ (pairT e).1 < least from hc)]
        rfl
      refine Cd.skip ?_
      refine Post.joinD ⟨rfl, rfl, rfl, rfl, trivial⟩ ⟨wt, k3, k4, bs, wr, by omega, fun wx ex hex wtx wrx => ?_⟩
      refine Post.endD0 rfl hex ?_
      rw [hin]
      exact ⟨⟨_, rfl⟩, wtx, wrx⟩
  clear wt wr k3 k4
  rintro I w8 ⟨wt, k3, k4, bs0, wr, hb0, hend⟩
  have hpre : B ≤ w8.heap.size := wr.size
  refine Cd.seq ?_
  refine Cd.region ?_
  refine Seq.val (Runs.makeFunc (v := .func (.func 79) #[] #[.pointer (some ⟨g3, 0, none⟩), .pointer (some ⟨g4, 0, none⟩)]) rfl (show evL _ _ = some [] from rfl) (show evL _ _ = some [.pointer (some ⟨g3, 0, none⟩), .pointer (some ⟨g4, 0, none⟩)] from rfl) rfl) rfl rfl rfl ?_
  refine Seq.val (Runs.assign rfl rfl) rfl rfl rfl ?_
  refine Seq.nil ?_
  refine Post.weak (F' := [(3, _), (4, _), (6, _), (7, _), (8, _)]) ⟨rfl, rfl, rfl, rfl, rfl, trivial⟩ ?_
  refine Post.then_ ?_
  refine Cd.seq ?_
  refine Cd.region ?_
  refine Seq.val (Runs.fieldB 0 rfl rfl Try.underlying35 rfl (by kernel_rfl)) rfl rfl rfl ?_
  refine Seq.val (Runs.loadB rfl rfl Try.underlying3 rfl k4 rfl) rfl rfl rfl ?_
  refine Seq.nil ?_
  refine Post.weak (F' := [(3, _), (4, _), (6, _), (7, _), (8, _), (28, _)]) ⟨rfl, rfl, rfl, rfl, rfl, rfl, trivial⟩ ?_
  refine Post.then_ ?_
  refine Cd.block ?_
  refine Cd.seq ?_
  refine Cd.region ?_
  refine Seq.val (Runs.eqlI rfl rfl rfl) rfl rfl rfl ?_
  refine Seq.val (Runs.assign rfl rfl) rfl rfl rfl ?_
  refine Seq.nil ?_
  refine Post.weak (F' := [(3, _), (4, _), (6, _), (7, _), (8, _), (28, _), (56, _)]) ⟨rfl, rfl, rfl, rfl, rfl, rfl, rfl, trivial⟩ ?_
  refine Post.then_ ?_
  refine Cd.condD rfl (fun c1 => ?_) (fun c1 => ?_)
  · rw [if_pos c1] at hT
    refine Cd.draw 6 (by kernel_rfl) [] (.inl rfl) rfl Grow Grow.refl (fun _ _ _ => Grow.trans) ?_
    intro w3 hw3 zw3
    replace wt := wt.step hw3
    replace wr := wr.step hw3
    replace k3 := k3.step hw3
    replace k4 := k4.step hw3
    have zlt := k4.lt
    refine Dr.val Grow.refl rfl (fun w hG => Runs.loadB rfl rfl Try.underlying77 rfl (k3.step hG) rfl) rfl ?_
    refine Dr.val Grow.refl rfl (fun w hG => Runs.nilCheck rfl rfl) rfl ?_
    refine Dr.val Grow.refl rfl (fun w hG => Runs.fieldB 0 rfl rfl Try.underlying112 rfl (by kernel_rfl)) rfl ?_
    refine Dr.val Grow.refl rfl (fun w hG => Runs.fieldB 1 rfl rfl Try.underlying35 rfl (by kernel_rfl)) rfl ?_
    refine Dr.val Grow.refl rfl (fun w hG => Runs.loadB rfl rfl Try.underlying2 rfl (k4.step hG) rfl) rfl ?_
    refine Dr.callV rfl (fun w => Enters.func rfl rfl rfl (run_enter Try.func82 (by kernel_rfl) rfl)) rfl (fun w hG => numPrintC e.n w hv.n) ?_
    refine Dr.nil ?_
    refine FinX.done (F' := [(3, _), (4, _), (6, _), (7, _), (8, _), (28, _), (56, _), (60, _), (63, _)]) rfl ⟨rfl, rfl, rfl, rfl, rfl, rfl, rfl, rfl, rfl, trivial⟩ ?_
    intro w4 hw4 fw4
    replace wt := wt.step hw4
    replace wr := wr.step hw4
    replace k3 := k3.step hw4
    replace k4 := k4.step hw4
    refine Seq.call (Enters.func rfl rfl rfl (run_enter Try.func78 (by kernel_rfl) rfl)) rfl rfl rfl ((writeS_both B g (numT e.n) bs0 _ wr (numT_lt _) (by have := numT_len e.n; omega)).1) ?_
    clear wr
    rintro e w5 ⟨⟨_, rfl⟩, fw5, wr⟩
    refine ⟨_, rfl, ?_⟩
    replace wt := wt.wt fw5
    replace k3 := k3.wt fw5
    replace k4 := k4.wt fw5
    refine Seq.nil ?_
    refine Post.weak (F' := [(3, _), (4, _), (6, _), (7, _), (8, _), (28, _), (56, _)]) ⟨rfl, rfl, rfl, rfl, rfl, rfl, rfl, trivial⟩ ?_
    refine Post.block_normal ?_
    refine Post.weak (F' := []) trivial ?_
    exact hend _ _ (.inr rfl) wt (by rw [hT]; exact wr)
  rw [if_neg c1] at hT
  refine Cd.seq ?_
  refine Cd.region ?_
  refine Seq.val (Runs.eqlI rfl rfl rfl) rfl rfl rfl ?_
  refine Seq.val (Runs.assign rfl rfl) rfl rfl rfl ?_
  refine Seq.nil ?_
  refine Post.weak (F' := [(3, _), (4, _), (6, _), (7, _), (8, _), (28, _), (56, _), (65, _)]) ⟨rfl, rfl, rfl, rfl, rfl, rfl, rfl, rfl, trivial⟩ ?_
  refine Post.then_ ?_
  refine Cd.condD rfl (fun c2 => ?_) (fun c2 => ?_)
  · rw [if_pos c2] at hT
    have hday : ∀ W, Calls Try.prog 83 #[.int .i64 e.n] W fun e1 w' => e1 = .returned (.string (strOf (dayT e.n.toNat))) ∧ Grow W w' := fun W => by
      have := dayPrint_any e.n.toNat W (by have := h5 c2; omega)
      rwa [Int.toNat_of_nonneg h4] at this
    refine Cd.draw 6 (by kernel_rfl) [] (.inl rfl) rfl Grow Grow.refl (fun _ _ _ => Grow.trans) ?_
    intro w3 hw3 zw3
    replace wt := wt.step hw3
    replace wr := wr.step hw3
    replace k3 := k3.step hw3
    replace k4 := k4.step hw3
    have zlt := k4.lt
    refine Dr.val Grow.refl rfl (fun w hG => Runs.loadB rfl rfl Try.underlying77 rfl (k3.step hG) rfl) rfl ?_
    refine Dr.val Grow.refl rfl (fun w hG => Runs.nilCheck rfl rfl) rfl ?_
    refine Dr.val Grow.refl rfl (fun w hG => Runs.fieldB 0 rfl rfl Try.underlying112 rfl (by kernel_rfl)) rfl ?_
    refine Dr.val Grow.refl rfl (fun w hG => Runs.fieldB 1 rfl rfl Try.underlying35 rfl (by kernel_rfl)) rfl ?_
    refine Dr.val Grow.refl rfl (fun w hG => Runs.loadB rfl rfl Try.underlying2 rfl (k4.step hG) rfl) rfl ?_
    refine Dr.callV rfl (fun w => Enters.func rfl rfl rfl (run_enter Try.func83 (by kernel_rfl) rfl)) rfl (fun w hG => hday w) ?_
    refine Dr.nil ?_
    refine FinX.done (F' := [(3, _), (4, _), (6, _), (7, _), (8, _), (28, _), (56, _), (65, _), (69, _), (72, _)]) rfl ⟨rfl, rfl, rfl, rfl, rfl, rfl, rfl, rfl, rfl, rfl, trivial⟩ ?_
    intro w4 hw4 fw4
    replace wt := wt.step hw4
    replace wr := wr.step hw4
    replace k3 := k3.step hw4
    replace k4 := k4.step hw4
    refine Seq.call (Enters.func rfl rfl rfl (run_enter Try.func78 (by kernel_rfl) rfl)) rfl rfl rfl ((writeS_both B g (dayT e.n.toNat) bs0 _ wr (dayT_lt _) (by have := dayT_len e.n.toNat; omega)).1) ?_
    clear wr
    rintro e w5 ⟨⟨_, rfl⟩, fw5, wr⟩
    refine ⟨_, rfl, ?_⟩
    replace wt := wt.wt fw5
    replace k3 := k3.wt fw5
    replace k4 := k4.wt fw5
    refine Seq.nil ?_
    refine Post.weak (F' := [(3, _), (4, _), (6, _), (7, _), (8, _), (28, _), (56, _), (65, _)]) ⟨rfl, rfl, rfl, rfl, rfl, rfl, rfl, rfl, trivial⟩ ?_
    refine Post.block_normal ?_
    refine Post.weak (F' := []) trivial ?_
    exact hend _ _ (.inr rfl) wt (by rw [hT]; exact wr)
  rw [if_neg c2] at hT
  refine Cd.seq ?_
  refine Cd.region ?_
  refine Seq.val (Runs.eqlI rfl rfl rfl) rfl rfl rfl ?_
  refine Seq.val (Runs.assign rfl rfl) rfl rfl rfl ?_
  refine Seq.nil ?_
  refine Post.weak (F' := [(3, _), (4, _), (6, _), (7, _), (8, _), (28, _), (56, _), (65, _), (74, _)]) ⟨rfl, rfl, rfl, rfl, rfl, rfl, rfl, rfl, rfl, trivial⟩ ?_
  refine Post.then_ ?_
  refine Cd.condD rfl (fun c3 => ?_) (fun c3 => ?_)
  · rw [if_pos c3] at hT
    refine Cd.draw 5 (by kernel_rfl) [] (.inl rfl) rfl Grow Grow.refl (fun _ _ _ => Grow.trans) ?_
    intro w3 hw3 zw3
    replace wt := wt.step hw3
    replace wr := wr.step hw3
    replace k3 := k3.step hw3
    replace k4 := k4.step hw3
    have zlt := k4.lt
    refine Dr.val Grow.refl rfl (fun w hG => Runs.loadB rfl rfl Try.underlying77 rfl (k3.step hG) rfl) rfl ?_
    refine Dr.val Grow.refl rfl (fun w hG => Runs.nilCheck rfl rfl) rfl ?_
    refine Dr.val Grow.refl rfl (fun w hG => Runs.fieldB 0 rfl rfl Try.underlying112 rfl (by kernel_rfl)) rfl ?_
    refine Dr.val Grow.refl rfl (fun w hG => Runs.fieldB 2 rfl rfl Try.underlying35 rfl (by kernel_rfl)) rfl ?_
    refine Dr.val Grow.refl rfl (fun w hG => Runs.loadB rfl rfl Try.underlying9 rfl (k4.step hG) rfl) rfl ?_
    refine Dr.nil ?_
    refine FinX.done (F' := [(3, _), (4, _), (6, _), (7, _), (8, _), (28, _), (56, _), (65, _), (74, _), (78, _), (80, _)]) rfl ⟨rfl, rfl, rfl, rfl, rfl, rfl, rfl, rfl, rfl, rfl, rfl, trivial⟩ ?_
    intro w4 hw4 fw4
    replace wt := wt.step hw4
    replace wr := wr.step hw4
    replace k3 := k3.step hw4
    replace k4 := k4.step hw4
    refine Seq.call (Enters.func rfl rfl rfl (run_enter Try.func78 (by kernel_rfl) rfl)) rfl rfl rfl ((writeS_both B g e.name bs0 _ wr (free_lt (h6 c3)) (by have := free_len (h6 c3); omega)).1) ?_
    clear wr
    rintro e w5 ⟨⟨_, rfl⟩, fw5, wr⟩
    refine ⟨_, rfl, ?_⟩
    replace wt := wt.wt fw5
    replace k3 := k3.wt fw5
    replace k4 := k4.wt fw5
    refine Seq.nil ?_
    refine Post.weak (F' := [(3, _), (4, _), (6, _), (7, _), (8, _), (28, _), (56, _), (65, _), (74, _)]) ⟨rfl, rfl, rfl, rfl, rfl, rfl, rfl, rfl, rfl, trivial⟩ ?_
    refine Post.block_normal ?_
    refine Post.weak (F' := []) trivial ?_
    exact hend _ _ (.inr rfl) wt (by rw [hT]; exact wr)
  rw [if_neg c3] at hT
  refine Cd.seq ?_
  refine Cd.region ?_
  refine Seq.val (Runs.eqlI rfl rfl rfl) rfl rfl rfl ?_
  refine Seq.val (Runs.assign rfl rfl) rfl rfl rfl ?_
  refine Seq.nil ?_
  refine Post.weak (F' := [(3, _), (4, _), (6, _), (7, _), (8, _), (28, _), (56, _), (65, _), (74, _), (82, _)]) ⟨rfl, rfl, rfl, rfl, rfl, rfl, rfl, rfl, rfl, rfl, trivial⟩ ?_
  refine Post.then_ ?_
  refine Cd.condD rfl (fun c4 => ?_) (fun c4 => ?_)
  · rw [if_pos c4] at hT
    refine Cd.region ?_
    refine Seq.val (Runs.loadB rfl rfl Try.underlying77 rfl k3 rfl) rfl rfl rfl ?_
    refine Seq.val (Runs.nilCheck rfl rfl) rfl rfl rfl ?_
    refine Seq.val (Runs.fieldB 0 rfl rfl Try.underlying112 rfl (by kernel_rfl)) rfl rfl rfl ?_
    refine Seq.call (Enters.func rfl rfl rfl (run_enter Try.func78 (by kernel_rfl) rfl)) rfl rfl rfl ((writeS_both B g [100, 97, 121] bs0 _ wr (by decide) (by simp only [List.length_cons, List.length_nil]; omega)).1) ?_
    clear wr
    rintro e w3 ⟨⟨_, rfl⟩, fw3, wr⟩
    refine ⟨_, rfl, ?_⟩
    replace wt := wt.wt fw3
    replace k3 := k3.wt fw3
    replace k4 := k4.wt fw3
    refine Seq.nil ?_
    refine Post.weak (F' := [(3, _), (4, _), (6, _), (7, _), (8, _), (28, _), (56, _), (65, _), (74, _), (82, _)]) ⟨rfl, rfl, rfl, rfl, rfl, rfl, rfl, rfl, rfl, rfl, trivial⟩ ?_
    refine Post.block_normal ?_
    refine Post.weak (F' := []) trivial ?_
    exact hend _ _ (.inr rfl) wt (by rw [hT]; exact wr)
  rw [if_neg c4] at hT
  refine Cd.seq ?_
  refine Cd.region ?_
  refine Seq.val (Runs.eqlI rfl rfl rfl) rfl rfl rfl ?_
  refine Seq.val (Runs.assign rfl rfl) rfl rfl rfl ?_
  refine Seq.nil ?_
  refine Post.weak (F' := [(3, _), (4, _), (6, _), (7, _), (8, _), (28, _), (56, _), (65, _), (74, _), (82, _), (88, _)]) ⟨rfl, rfl, rfl, rfl, rfl, rfl, rfl, rfl, rfl, rfl, rfl, trivial⟩ ?_
  refine Post.then_ ?_
  refine Cd.condD rfl (fun c9 => ?_) (fun c9 => ?_)
  · have hb : bindT e.op = ([], 7) := by rw [c9]; rfl
    rw [if_neg (by rw [hb]; decide), if_neg (by rw [hb]; decide), if_neg (by rw [hb]; decide), if_pos c9, snd_pairT] at hT
    refine Cd.region ?_
    refine Seq.val (Runs.move rfl rfl) rfl rfl rfl ?_
    refine Seq.call (Enters.value (first := []) (cap := [.pointer (some ⟨g3, 0, none⟩), .pointer (some ⟨g4, 0, none⟩)]) rfl rfl rfl eg_args) rfl rfl rfl (exprArgs_of B g (bs.length + 60000) g3 g4 c A e [109, 105, 110] bs0 w _ hrec (wt.to hBW) k3 k4 wr (by omega) (by omega) (by decide) (by decide) hargs (by omega) hjl) ?_
    clear wr
    rintro en w9 ⟨⟨_, rfl⟩, f9, wr⟩
    refine ⟨_, rfl, ?_⟩
    replace wt := wt.wt f9
    refine Seq.nil ?_
    refine Post.weak (F' := [(3, _), (4, _), (6, _), (7, _), (8, _), (28, _), (56, _), (65, _), (74, _), (82, _), (88, _)]) ⟨rfl, rfl, rfl, rfl, rfl, rfl, rfl, rfl, rfl, rfl, rfl, trivial⟩ ?_
    refine Post.block_normal ?_
    refine Post.weak (F' := []) trivial ?_
    exact hend _ _ (.inr rfl) wt (by rw [hT]; simpa only [List.append_assoc, List.cons_append, List.nil_append] using wr)
  refine Cd.seq ?_
  refine Cd.region ?_
  refine Seq.val (Runs.eqlI rfl rfl rfl) rfl rfl rfl ?_
  refine Seq.val (Runs.assign rfl rfl) rfl rfl rfl ?_
  refine Seq.nil ?_
  refine Post.weak (F' := [(3, _), (4, _), (6, _), (7, _), (8, _), (28, _), (56, _), (65, _), (74, _), (82, _), (88, _), (92, _)]) ⟨rfl, rfl, rfl, rfl, rfl, rfl, rfl, rfl, rfl, rfl, rfl, rfl, trivial⟩ ?_
  refine Post.then_ ?_
  refine Cd.condD rfl (fun c10 => ?_) (fun c10 => ?_)
  · have hb : bindT e.op = ([], 7) := by rw [c10]; rfl
    rw [if_neg (by rw [hb]; decide), if_neg (by rw [hb]; decide), if_neg (by rw [hb]; decide), if_neg c9, if_pos c10, snd_pairT] at hT
    refine Cd.region ?_
    refine Seq.val (Runs.move rfl rfl) rfl rfl rfl ?_
    refine Seq.call (Enters.value (first := []) (cap := [.pointer (some ⟨g3, 0, none⟩), .pointer (some ⟨g4, 0, none⟩)]) rfl rfl rfl eg_args) rfl rfl rfl (exprArgs_of B g (bs.length + 60000) g3 g4 c A e [109, 97, 120] bs0 w _ hrec (wt.to hBW) k3 k4 wr (by omega) (by omega) (by decide) (by decide) hargs (by omega) hjl) ?_
    clear wr
    rintro en w9 ⟨⟨_, rfl⟩, f9, wr⟩
    refine ⟨_, rfl, ?_⟩
    replace wt := wt.wt f9
    refine Seq.nil ?_
    refine Post.weak (F' := [(3, _), (4, _), (6, _), (7, _), (8, _), (28, _), (56, _), (65, _), (74, _), (82, _), (88, _), (92, _)]) ⟨rfl, rfl, rfl, rfl, rfl, rfl, rfl, rfl, rfl, rfl, rfl, rfl, trivial⟩ ?_
    refine Post.block_normal ?_
    refine Post.weak (F' := []) trivial ?_
    exact hend _ _ (.inr rfl) wt (by rw [hT]; simpa only [List.append_assoc, List.cons_append, List.nil_append] using wr)
  refine Cd.seq ?_
  refine Cd.region ?_
  refine Seq.val (Runs.eqlI rfl rfl rfl) rfl rfl rfl ?_
  refine Seq.val (Runs.assign rfl rfl) rfl rfl rfl ?_
  refine Seq.nil ?_
  refine Post.weak (F' := [(3, _), (4, _), (6, _), (7, _), (8, _), (28, _), (56, _), (65, _), (74, _), (82, _), (88, _), (92, _), (96, _)]) ⟨rfl, rfl, rfl, rfl, rfl, rfl, rfl, rfl, rfl, rfl, rfl, rfl, rfl, trivial⟩ ?_
  refine Post.then_ ?_
  refine Cd.condD rfl (fun c21 => ?_) (fun c21 => ?_)
  · have hb : bindT e.op = ([], 7) := by rw [c21]; rfl
    rw [if_neg (by rw [hb]; decide), if_neg (by rw [hb]; decide), if_neg (by rw [hb]; decide), if_neg c9, if_neg c10, snd_pairT] at hT
    refine Cd.region ?_
    refine Seq.val (Runs.move rfl rfl) rfl rfl rfl ?_
    refine Seq.call (Enters.value (first := []) (cap := [.pointer (some ⟨g3, 0, none⟩), .pointer (some ⟨g4, 0, none⟩)]) rfl rfl rfl eg_args) rfl rfl rfl (exprArgs_of B g (bs.length + 60000) g3 g4 c A e [105, 102] bs0 w _ hrec (wt.to hBW) k3 k4 wr (by omega) (by omega) (by decide) (by decide) hargs (by omega) hjl) ?_
    clear wr
    rintro en w9 ⟨⟨_, rfl⟩, f9, wr⟩
    refine ⟨_, rfl, ?_⟩
    replace wt := wt.wt f9
    refine Seq.nil ?_
    refine Post.weak (F' := [(3, _), (4, _), (6, _), (7, _), (8, _), (28, _), (56, _), (65, _), (74, _), (82, _), (88, _), (92, _), (96, _)]) ⟨rfl, rfl, rfl, rfl, rfl, rfl, rfl, rfl, rfl, rfl, rfl, rfl, rfl, trivial⟩ ?_
    refine Post.block_normal ?_
    refine Post.weak (F' := []) trivial ?_
    exact hend _ _ (.inr rfl) wt (by rw [hT]; simpa only [List.append_assoc, List.cons_append, List.nil_append] using wr)
  refine Cd.seq ?_
  refine Cd.seq ?_
  refine Cd.region ?_
  refine Seq.val (Runs.eqlI rfl rfl rfl) rfl rfl rfl ?_
  refine Seq.val (Runs.assign rfl rfl) rfl rfl rfl ?_
  refine Seq.nil ?_
  refine Post.weak (F' := [(3, _), (4, _), (6, _), (7, _), (8, _), (28, _), (56, _), (65, _), (74, _), (82, _), (88, _), (92, _), (96, _), (100, _)]) ⟨rfl, rfl, rfl, rfl, rfl, rfl, rfl, rfl, rfl, rfl, rfl, rfl, rfl, rfl, trivial⟩ ?_
  refine Post.then_ ?_
  refine Cd.condD rfl (fun c19 => ?_) (fun c19 => ?_)
  · skip
    refine Cd.skip ?_
    refine Post.then_ ?_
    refine Cd.condT rfl (decide_eq_true c19) ?_
    have hb : (bindT e.op).2 = 6 := by rw [c19]; rfl
    have hlen1 : e.args.length = 1 := o5 (by omega)
    obtain ⟨x, hx⟩ : ∃ x, e.args = [x] := List.length_eq_one_iff.1 hlen1
    obtain ⟨ad, A0, A0', rfl, hcx, hcallx⟩ := hrec 0 x (by rw [hx]; rfl)
    rw [if_pos hb, hx, show ([x].map pairT).getD 0 (7, []) = pairT x from rfl] at hT
    refine Cd.seq ?_
    refine Cd.region ?_
    refine Seq.val (Runs.loadB rfl rfl Try.underlying77 rfl k3 rfl) rfl rfl rfl ?_
    refine Seq.val (Runs.nilCheck rfl rfl) rfl rfl rfl ?_
    refine Seq.val (Runs.fieldB 0 rfl rfl Try.underlying112 rfl (by kernel_rfl)) rfl rfl rfl ?_
    refine Seq.val (Runs.move rfl rfl) rfl rfl rfl ?_
    refine Seq.call (Enters.func rfl rfl rfl (run_enter Try.func78 (by kernel_rfl) rfl)) rfl rfl rfl ((writeS_both B g (bindT e.op).1 bs0 _ wr b2 (by omega)).1) ?_
    clear wr
    rintro e w3 ⟨⟨_, rfl⟩, fw3, wr⟩
    refine ⟨_, rfl, ?_⟩
    replace wt := wt.wt fw3
    replace k3 := k3.wt fw3
    replace k4 := k4.wt fw3
    refine Seq.nil ?_
    refine Post.weak (F' := [(3, _), (4, _), (6, _), (7, _), (8, _), (28, _), (56, _), (65, _), (74, _), (82, _), (88, _), (92, _), (96, _), (100, _)]) ⟨rfl, rfl, rfl, rfl, rfl, rfl, rfl, rfl, rfl, rfl, rfl, rfl, rfl, rfl, trivial⟩ ?_
    refine Post.then_ ?_
    refine Cd.draw 5 (by kernel_rfl) [] (.inl rfl) rfl Grow Grow.refl (fun _ _ _ => Grow.trans) ?_
    intro w4 hw4 zw4
    replace wt := wt.step hw4
    replace wr := wr.step hw4
    replace k3 := k3.step hw4
    replace k4 := k4.step hw4
    have zlt := k4.lt
    refine Dr.val Grow.refl rfl (fun w hG => Runs.loadB rfl rfl Try.underlying77 rfl (k3.step hG) rfl) rfl ?_
    refine Dr.val Grow.refl rfl (fun w hG => Runs.fieldB 3 rfl rfl Try.underlying35 rfl (by kernel_rfl)) rfl ?_
    refine Dr.val Grow.refl rfl (fun w hG => Runs.loadB rfl rfl Try.underlying25 rfl (k4.step hG) rfl) rfl ?_
    refine Dr.val Grow.refl rfl (fun w hG => Runs.indexN rfl rfl rfl Try.underlying25 (s := 4) (by kernel_rfl) (j := 0) rfl (by omega)) rfl ?_
    refine Dr.val Grow.refl rfl (fun w hG => Runs.loadF (ps := [.int .i64 x.op, .int .i64 x.n, .string (strOf x.name), .slice A0 x.args.length A0']) rfl rfl Try.underlying35 rfl (m := 4) (by kernel_rfl) rfl (hcx _ ((wt.to hBW).trans (hG.mono wr.size)))) rfl ?_
    refine Dr.nil ?_
    refine FinX.done (F' := [(3, _), (4, _), (6, _), (7, _), (8, _), (28, _), (56, _), (65, _), (74, _), (82, _), (88, _), (92, _), (96, _), (100, _), (108, _), (112, _)]) rfl ⟨rfl, rfl, rfl, rfl, rfl, rfl, rfl, rfl, rfl, rfl, rfl, rfl, rfl, rfl, rfl, rfl, trivial⟩ ?_
    intro w5 hw5 fw5
    replace wt := wt.step hw5
    replace wr := wr.step hw5
    replace k3 := k3.step hw5
    replace k4 := k4.step hw5
    refine Seq.call (Enters.func rfl rfl rfl (run_enter Try.func43 (by kernel_rfl) rfl)) rfl rfl rfl (hcallx _ _ 6 (wt.to hBW) wr (by unfold I64; omega) (by rw [List.length_append]; omega)) ?_
    clear wr
    rintro e w6 ⟨⟨_, rfl⟩, fw6, wr⟩
    refine ⟨_, rfl, ?_⟩
    replace wt := wt.wt fw6
    refine Seq.nil ?_
    refine Post.weak (F' := [(3, _), (4, _), (6, _), (7, _), (8, _), (28, _), (56, _), (65, _), (74, _), (82, _), (88, _), (92, _), (96, _), (100, _)]) ⟨rfl, rfl, rfl, rfl, rfl, rfl, rfl, rfl, rfl, rfl, rfl, rfl, rfl, rfl, trivial⟩ ?_
    refine Post.block_normal ?_
    refine Post.weak (F' := []) trivial ?_
    exact hend _ _ (.inr rfl) wt (by rw [hT]; simpa only [List.append_assoc, inT] using wr)
  refine Cd.region ?_
  refine Seq.val (Runs.eqlI rfl rfl rfl) rfl rfl rfl ?_
  refine Seq.val (Runs.assign rfl rfl) rfl rfl rfl ?_
  refine Seq.nil ?_
  refine Post.weak (F' := [(3, _), (4, _), (6, _), (7, _), (8, _), (28, _), (56, _), (65, _), (74, _), (82, _), (88, _), (92, _), (96, _), (100, _)]) ⟨rfl, rfl, rfl, rfl, rfl, rfl, rfl, rfl, rfl, rfl, rfl, rfl, rfl, rfl, trivial⟩ ?_
  refine Post.then_ ?_
  refine Cd.condD rfl (fun c20 => ?_) (fun c20 => ?_)
  · skip
    have hb : (bindT e.op).2 = 6 := by rw [c20]; rfl
    have hlen1 : e.args.length = 1 := o5 (by omega)
    obtain ⟨x, hx⟩ : ∃ x, e.args = [x] := List.length_eq_one_iff.1 hlen1
    obtain ⟨ad, A0, A0', rfl, hcx, hcallx⟩ := hrec 0 x (by rw [hx]; rfl)
    rw [if_pos hb, hx, show ([x].map pairT).getD 0 (7, []) = pairT x from rfl] at hT
    refine Cd.seq ?_
    refine Cd.region ?_
    refine Seq.val (Runs.loadB rfl rfl Try.underlying77 rfl k3 rfl) rfl rfl rfl ?_
    refine Seq.val (Runs.nilCheck rfl rfl) rfl rfl rfl ?_
    refine Seq.val (Runs.fieldB 0 rfl rfl Try.underlying112 rfl (by kernel_rfl)) rfl rfl rfl ?_
    refine Seq.val (Runs.move rfl rfl) rfl rfl rfl ?_
    refine Seq.call (Enters.func rfl rfl rfl (run_enter Try.func78 (by kernel_rfl) rfl)) rfl rfl rfl ((writeS_both B g (bindT e.op).1 bs0 _ wr b2 (by omega)).1) ?_
    clear wr
    rintro e w3 ⟨⟨_, rfl⟩, fw3, wr⟩
    refine ⟨_, rfl, ?_⟩
    replace wt := wt.wt fw3
    replace k3 := k3.wt fw3
    replace k4 := k4.wt fw3
    refine Seq.nil ?_
    refine Post.weak (F' := [(3, _), (4, _), (6, _), (7, _), (8, _), (28, _), (56, _), (65, _), (74, _), (82, _), (88, _), (92, _), (96, _), (100, _)]) ⟨rfl, rfl, rfl, rfl, rfl, rfl, rfl, rfl, rfl, rfl, rfl, rfl, rfl, rfl, trivial⟩ ?_
    refine Post.then_ ?_
    refine Cd.draw 5 (by kernel_rfl) [] (.inl rfl) rfl Grow Grow.refl (fun _ _ _ => Grow.trans) ?_
    intro w4 hw4 zw4
    replace wt := wt.step hw4
    replace wr := wr.step hw4
    replace k3 := k3.step hw4
    replace k4 := k4.step hw4
    have zlt := k4.lt
    refine Dr.val Grow.refl rfl (fun w hG => Runs.loadB rfl rfl Try.underlying77 rfl (k3.step hG) rfl) rfl ?_
    refine Dr.val Grow.refl rfl (fun w hG => Runs.fieldB 3 rfl rfl Try.underlying35 rfl (by kernel_rfl)) rfl ?_
    refine Dr.val Grow.refl rfl (fun w hG => Runs.loadB rfl rfl Try.underlying25 rfl (k4.step hG) rfl) rfl ?_
    refine Dr.val Grow.refl rfl (fun w hG => Runs.indexN rfl rfl rfl Try.underlying25 (s := 4) (by kernel_rfl) (j := 0) rfl (by omega)) rfl ?_
    refine Dr.val Grow.refl rfl (fun w hG => Runs.loadF (ps := [.int .i64 x.op, .int .i64 x.n, .string (strOf x.name), .slice A0 x.args.length A0']) rfl rfl Try.underlying35 rfl (m := 4) (by kernel_rfl) rfl (hcx _ ((wt.to hBW).trans (hG.mono wr.size)))) rfl ?_
    refine Dr.nil ?_
    refine FinX.done (F' := [(3, _), (4, _), (6, _), (7, _), (8, _), (28, _), (56, _), (65, _), (74, _), (82, _), (88, _), (92, _), (96, _), (100, _), (108, _), (112, _)]) rfl ⟨rfl, rfl, rfl, rfl, rfl, rfl, rfl, rfl, rfl, rfl, rfl, rfl, rfl, rfl, rfl, rfl, trivial⟩ ?_
    intro w5 hw5 fw5
    replace wt := wt.step hw5
    replace wr := wr.step hw5
    replace k3 := k3.step hw5
    replace k4 := k4.step hw5
    refine Seq.call (Enters.func rfl rfl rfl (run_enter Try.func43 (by kernel_rfl) rfl)) rfl rfl rfl (hcallx _ _ 6 (wt.to hBW) wr (by unfold I64; omega) (by rw [List.length_append]; omega)) ?_
    clear wr
    rintro e w6 ⟨⟨_, rfl⟩, fw6, wr⟩
    refine ⟨_, rfl, ?_⟩
    replace wt := wt.wt fw6
    refine Seq.nil ?_
    refine Post.weak (F' := [(3, _), (4, _), (6, _), (7, _), (8, _), (28, _), (56, _), (65, _), (74, _), (82, _), (88, _), (92, _), (96, _), (100, _)]) ⟨rfl, rfl, rfl, rfl, rfl, rfl, rfl, rfl, rfl, rfl, rfl, rfl, rfl, rfl, trivial⟩ ?_
    refine Post.block_normal ?_
    refine Post.weak (F' := []) trivial ?_
    exact hend _ _ (.inr rfl) wt (by rw [hT]; simpa only [List.append_assoc, inT] using wr)
  have hop : e.op = 5 ∨ e.op = 6 ∨ e.op = 7 ∨ e.op = 8 ∨ e.op = 11 ∨ e.op = 12 ∨ e.op = 13 ∨ e.op = 14 ∨ e.op = 15 ∨ e.op = 16 ∨ e.op = 17 ∨ e.op = 18 := by omega
  have hp : (bindT e.op).2 < 6 := by rcases hop with h | h | h | h | h | h | h | h | h | h | h | h <;> rw [h] <;> decide
  have hlen2 : e.args.length = 2 := o4 (by omega) (by omega)
  obtain ⟨x, y, hxy⟩ : ∃ x y, e.args = [x, y] := by
    cases h : e.args with
    | nil => rw [h] at hlen2; simp at hlen2
    | cons x r => cases r with
      | nil => rw [h] at hlen2; simp at hlen2
      | cons y r => cases r with
        | nil => exact ⟨x, y, rfl⟩
        | cons z r => rw [h] at hlen2; simp at hlen2
  obtain ⟨ad, A0, A0', rfl, hcx, hcallx⟩ := hrec 0 x (by rw [hxy]; rfl)
  obtain ⟨ad', A1, A1', had, hcy, hcally⟩ := hrec 1 y (by rw [hxy]; rfl)
  injection had with had
  subst had
  have hil : ∀ l, (inT x l).length ≤ 20000 := fun l => by
    have h1 := (parT_len l (pairT x)).1
    have e1 : (pairT x).2 = exprT x := rfl
    have h2 := (exprT_bd x.nodes x (Nat.le_refl _) (hargs x (by rw [hxy]; exact List.mem_cons_self))).1
    have h3 : x.nodes < e.nodes := Ex.arg_nodes (by rw [hxy]; exact List.mem_cons_self)
    rw [e1] at h1
    unfold inT
    omega
  rw [if_neg (by omega), hxy, show ([x, y].map pairT).getD 0 (7, []) = pairT x from rfl, show ([x, y].map pairT).getD 1 (7, []) = pairT y from rfl] at hT
  refine Cd.seq ?_
  refine Cd.region ?_
  refine Seq.val (Runs.move rfl rfl) rfl rfl rfl ?_
  refine Seq.val (Runs.assign rfl rfl) rfl rfl rfl ?_
  refine Seq.nil ?_
  refine Post.weak (F' := [(3, _), (4, _), (6, _), (7, _), (8, _), (9, _), (28, _), (56, _), (65, _), (74, _), (82, _), (88, _), (92, _), (96, _), (100, _)]) ⟨rfl, rfl, rfl, rfl, rfl, rfl, rfl, rfl, rfl, rfl, rfl, rfl, rfl, rfl, rfl, trivial⟩ ?_
  refine Post.then_ ?_
  refine Cd.seq ?_
  refine Cd.seq ?_
  refine Cd.region ?_
  refine Seq.val (Runs.move rfl rfl) rfl rfl rfl ?_
  refine Seq.val (Runs.eqlI rfl rfl rfl) rfl rfl rfl ?_
  refine Seq.nil ?_
  refine Post.weak (F' := [(3, _), (4, _), (6, _), (7, _), (8, _), (9, _), (28, _), (31, _), (56, _), (65, _), (74, _), (82, _), (88, _), (92, _), (96, _), (100, _)]) ⟨rfl, rfl, rfl, rfl, rfl, rfl, rfl, rfl, rfl, rfl, rfl, rfl, rfl, rfl, rfl, rfl, trivial⟩ ?_
  refine Post.then_ ?_
  refine Cd.condD rfl (fun c3' => ?_) (fun c3' => ?_)
  · rw [if_pos c3', show (4 : Int) = (bindT e.op).2 + 1 by omega] at hT
    refine Cd.region ?_
    refine Seq.val (Runs.move rfl rfl) rfl rfl rfl ?_
    refine Seq.val (Runs.addI rfl rfl rfl (by omega) (by omega)) rfl rfl rfl ?_
    refine Seq.val (Runs.assign rfl rfl) rfl rfl rfl ?_
    refine Seq.nil ?_
    refine Post.weak (F' := [(3, _), (4, _), (6, _), (7, _), (8, _), (9, _), (28, _), (31, _), (56, _), (65, _), (74, _), (82, _), (88, _), (92, _), (96, _), (100, _)]) ⟨rfl, rfl, rfl, rfl, rfl, rfl, rfl, rfl, rfl, rfl, rfl, rfl, rfl, rfl, rfl, rfl, trivial⟩ ?_
    refine Post.then_ ?_
    refine Cd.seq ?_
    refine Cd.draw 6 (by kernel_rfl) [] (.inl rfl) rfl Grow Grow.refl (fun _ _ _ => Grow.trans) ?_
    intro w3 hw3 zw3
    replace wt := wt.step hw3
    replace wr := wr.step hw3
    replace k3 := k3.step hw3
    replace k4 := k4.step hw3
    have zlt := k4.lt
    refine Dr.val Grow.refl rfl (fun w hG => Runs.loadB rfl rfl Try.underlying77 rfl (k3.step hG) rfl) rfl ?_
    refine Dr.val Grow.refl rfl (fun w hG => Runs.fieldB 3 rfl rfl Try.underlying35 rfl (by kernel_rfl)) rfl ?_
    refine Dr.val Grow.refl rfl (fun w hG => Runs.loadB rfl rfl Try.underlying25 rfl (k4.step hG) rfl) rfl ?_
    refine Dr.val Grow.refl rfl (fun w hG => Runs.indexN rfl rfl rfl Try.underlying25 (s := 4) (by kernel_rfl) (j := 0) rfl (by omega)) rfl ?_
    refine Dr.val Grow.refl rfl (fun w hG => Runs.loadF (ps := [.int .i64 x.op, .int .i64 x.n, .string (strOf x.name), .slice A0 x.args.length A0']) rfl rfl Try.underlying35 rfl (m := 4) (by kernel_rfl) rfl (hcx _ ((wt.to hBW).trans (hG.mono wr.size)))) rfl ?_
    refine Dr.val Grow.refl rfl (fun w hG => Runs.move rfl rfl) rfl ?_
    refine Dr.nil ?_
    refine FinX.done (F' := [(3, _), (4, _), (6, _), (7, _), (8, _), (9, _), (28, _), (31, _), (34, _), (38, _), (39, _), (56, _), (65, _), (74, _), (82, _), (88, _), (92, _), (96, _), (100, _)]) rfl ⟨rfl, rfl, rfl, rfl, rfl, rfl, rfl, rfl, rfl, rfl, rfl, rfl, rfl, rfl, rfl, rfl, rfl, rfl, rfl, trivial⟩ ?_
    intro w4 hw4 fw4
    replace wt := wt.step hw4
    replace wr := wr.step hw4
    replace k3 := k3.step hw4
    replace k4 := k4.step hw4
    refine Seq.call (Enters.func rfl rfl rfl (run_enter Try.func43 (by kernel_rfl) rfl)) rfl rfl rfl (hcallx _ _ ((bindT e.op).2 + 1) (wt.to hBW) wr (by unfold I64; omega) (by omega)) ?_
    clear wr
    rintro e w5 ⟨⟨_, rfl⟩, fw5, wr⟩
    refine ⟨_, rfl, ?_⟩
    replace wt := wt.wt fw5
    replace k3 := k3.wt fw5
    replace k4 := k4.wt fw5
    refine Seq.nil ?_
    refine Post.weak (F' := [(3, _), (4, _), (6, _), (7, _), (8, _), (9, _), (28, _), (31, _), (56, _), (65, _), (74, _), (82, _), (88, _), (92, _), (96, _), (100, _)]) ⟨rfl, rfl, rfl, rfl, rfl, rfl, rfl, rfl, rfl, rfl, rfl, rfl, rfl, rfl, rfl, rfl, trivial⟩ ?_
    refine Post.then_ ?_
    refine Cd.seq ?_
    refine Cd.region ?_
    refine Seq.val (Runs.loadB rfl rfl Try.underlying77 rfl k3 rfl) rfl rfl rfl ?_
    refine Seq.val (Runs.nilCheck rfl rfl) rfl rfl rfl ?_
    refine Seq.val (Runs.fieldB 0 rfl rfl Try.underlying112 rfl (by kernel_rfl)) rfl rfl rfl ?_
    refine Seq.val (Runs.move rfl rfl) rfl rfl rfl ?_
    refine Seq.val (Runs.addL (a := [32]) rfl rfl rfl (by simp only [List.length_cons, List.length_nil]; omega)) rfl rfl rfl ?_
    refine Seq.val (Runs.addL (b := [32]) rfl rfl rfl (by simp only [List.length_append, List.length_cons, List.length_nil]; omega)) rfl rfl rfl ?_
    have i0 := hil ((bindT e.op).2 + 1)
    refine Seq.call (Enters.func rfl rfl rfl (run_enter Try.func78 (by kernel_rfl) rfl)) rfl rfl rfl ((writeS_both B g ([32] ++ (bindT e.op).1 ++ [32]) _ _ wr (bt3 (by decide) b2 (by decide)) (by simp only [List.length_append, List.length_cons, List.length_nil]; omega)).1) ?_
    clear wr
    rintro e w6 ⟨⟨_, rfl⟩, fw6, wr⟩
    refine ⟨_, rfl, ?_⟩
    replace wt := wt.wt fw6
    replace k3 := k3.wt fw6
    replace k4 := k4.wt fw6
    refine Seq.nil ?_
    refine Post.weak (F' := [(3, _), (4, _), (6, _), (7, _), (8, _), (9, _), (28, _), (31, _), (56, _), (65, _), (74, _), (82, _), (88, _), (92, _), (96, _), (100, _)]) ⟨rfl, rfl, rfl, rfl, rfl, rfl, rfl, rfl, rfl, rfl, rfl, rfl, rfl, rfl, rfl, rfl, trivial⟩ ?_
    refine Post.then_ ?_
    refine Cd.draw 7 (by kernel_rfl) [] (.inl rfl) rfl Grow Grow.refl (fun _ _ _ => Grow.trans) ?_
    intro w7 hw7 zw7
    replace wt := wt.step hw7
    replace wr := wr.step hw7
    replace k3 := k3.step hw7
    replace k4 := k4.step hw7
    have zlt := k4.lt
    refine Dr.val Grow.refl rfl (fun w hG => Runs.loadB rfl rfl Try.underlying77 rfl (k3.step hG) rfl) rfl ?_
    refine Dr.val Grow.refl rfl (fun w hG => Runs.fieldB 3 rfl rfl Try.underlying35 rfl (by kernel_rfl)) rfl ?_
    refine Dr.val Grow.refl rfl (fun w hG => Runs.loadB rfl rfl Try.underlying25 rfl (k4.step hG) rfl) rfl ?_
    refine Dr.val Grow.refl rfl (fun w hG => Runs.indexN rfl rfl rfl Try.underlying25 (s := 4) (by kernel_rfl) (j := 1) rfl (by omega)) rfl ?_
    refine Dr.val Grow.refl rfl (fun w hG => Runs.loadF (ps := [.int .i64 y.op, .int .i64 y.n, .string (strOf y.name), .slice A1 y.args.length A1']) rfl rfl Try.underlying35 rfl (m := 4) (by kernel_rfl) rfl (hcy _ ((wt.to hBW).trans (hG.mono wr.size)))) rfl ?_
    refine Dr.val Grow.refl rfl (fun w hG => Runs.move rfl rfl) rfl ?_
    refine Dr.val Grow.refl rfl (fun w hG => Runs.addI rfl rfl rfl (by omega) (by omega)) rfl ?_
    refine Dr.nil ?_
    refine FinX.done (F' := [(3, _), (4, _), (6, _), (7, _), (8, _), (9, _), (28, _), (31, _), (48, _), (52, _), (54, _), (56, _), (65, _), (74, _), (82, _), (88, _), (92, _), (96, _), (100, _)]) rfl ⟨rfl, rfl, rfl, rfl, rfl, rfl, rfl, rfl, rfl, rfl, rfl, rfl, rfl, rfl, rfl, rfl, rfl, rfl, rfl, trivial⟩ ?_
    intro w8 hw8 fw8
    replace wt := wt.step hw8
    replace wr := wr.step hw8
    replace k3 := k3.step hw8
    replace k4 := k4.step hw8
    refine Seq.call (Enters.func rfl rfl rfl (run_enter Try.func43 (by kernel_rfl) rfl)) rfl rfl rfl (hcally _ _ ((bindT e.op).2 + 1) (wt.to hBW) wr (by unfold I64; omega) (by simp only [List.length_append, List.length_cons, List.length_nil]; omega)) ?_
    clear wr
    rintro e w9 ⟨⟨_, rfl⟩, fw9, wr⟩
    refine ⟨_, rfl, ?_⟩
    replace wt := wt.wt fw9
    refine Seq.nil ?_
    refine Post.weak (F' := [(3, _), (4, _), (6, _), (7, _), (8, _), (9, _), (28, _), (31, _), (56, _), (65, _), (74, _), (82, _), (88, _), (92, _), (96, _), (100, _)]) ⟨rfl, rfl, rfl, rfl, rfl, rfl, rfl, rfl, rfl, rfl, rfl, rfl, rfl, rfl, rfl, rfl, trivial⟩ ?_
    refine Post.block_normal ?_
    refine Post.weak (F' := []) trivial ?_
    exact hend _ _ (.inr rfl) wt (by rw [hT]; simpa only [List.append_assoc, inT] using wr)
  · rw [if_neg c3', if_pos hp] at hT
    refine Cd.skip ?_
    refine Post.then_ ?_
    refine Cd.seq ?_
    refine Cd.draw 6 (by kernel_rfl) [] (.inl rfl) rfl Grow Grow.refl (fun _ _ _ => Grow.trans) ?_
    intro w3 hw3 zw3
    replace wt := wt.step hw3
    replace wr := wr.step hw3
    replace k3 := k3.step hw3
    replace k4 := k4.step hw3
    have zlt := k4.lt
    refine Dr.val Grow.refl rfl (fun w hG => Runs.loadB rfl rfl Try.underlying77 rfl (k3.step hG) rfl) rfl ?_
    refine Dr.val Grow.refl rfl (fun w hG => Runs.fieldB 3 rfl rfl Try.underlying35 rfl (by kernel_rfl)) rfl ?_
    refine Dr.val Grow.refl rfl (fun w hG => Runs.loadB rfl rfl Try.underlying25 rfl (k4.step hG) rfl) rfl ?_
    refine Dr.val Grow.refl rfl (fun w hG => Runs.indexN rfl rfl rfl Try.underlying25 (s := 4) (by kernel_rfl) (j := 0) rfl (by omega)) rfl ?_
    refine Dr.val Grow.refl rfl (fun w hG => Runs.loadF (ps := [.int .i64 x.op, .int .i64 x.n, .string (strOf x.name), .slice A0 x.args.length A0']) rfl rfl Try.underlying35 rfl (m := 4) (by kernel_rfl) rfl (hcx _ ((wt.to hBW).trans (hG.mono wr.size)))) rfl ?_
    refine Dr.val Grow.refl rfl (fun w hG => Runs.move rfl rfl) rfl ?_
    refine Dr.nil ?_
    refine FinX.done (F' := [(3, _), (4, _), (6, _), (7, _), (8, _), (9, _), (28, _), (31, _), (34, _), (38, _), (39, _), (56, _), (65, _), (74, _), (82, _), (88, _), (92, _), (96, _), (100, _)]) rfl ⟨rfl, rfl, rfl, rfl, rfl, rfl, rfl, rfl, rfl, rfl, rfl, rfl, rfl, rfl, rfl, rfl, rfl, rfl, rfl, trivial⟩ ?_
    intro w4 hw4 fw4
    replace wt := wt.step hw4
    replace wr := wr.step hw4
    replace k3 := k3.step hw4
    replace k4 := k4.step hw4
    refine Seq.call (Enters.func rfl rfl rfl (run_enter Try.func43 (by kernel_rfl) rfl)) rfl rfl rfl (hcallx _ _ (bindT e.op).2 (wt.to hBW) wr (by unfold I64; omega) (by omega)) ?_
    clear wr
    rintro e w5 ⟨⟨_, rfl⟩, fw5, wr⟩
    refine ⟨_, rfl, ?_⟩
    replace wt := wt.wt fw5
    replace k3 := k3.wt fw5
    replace k4 := k4.wt fw5
    refine Seq.nil ?_
    refine Post.weak (F' := [(3, _), (4, _), (6, _), (7, _), (8, _), (9, _), (28, _), (31, _), (56, _), (65, _), (74, _), (82, _), (88, _), (92, _), (96, _), (100, _)]) ⟨rfl, rfl, rfl, rfl, rfl, rfl, rfl, rfl, rfl, rfl, rfl, rfl, rfl, rfl, rfl, rfl, trivial⟩ ?_
    refine Post.then_ ?_
    refine Cd.seq ?_
    refine Cd.region ?_
    refine Seq.val (Runs.loadB rfl rfl Try.underlying77 rfl k3 rfl) rfl rfl rfl ?_
    refine Seq.val (Runs.nilCheck rfl rfl) rfl rfl rfl ?_
    refine Seq.val (Runs.fieldB 0 rfl rfl Try.underlying112 rfl (by kernel_rfl)) rfl rfl rfl ?_
    refine Seq.val (Runs.move rfl rfl) rfl rfl rfl ?_
    refine Seq.val (Runs.addL (a := [32]) rfl rfl rfl (by simp only [List.length_cons, List.length_nil]; omega)) rfl rfl rfl ?_
    refine Seq.val (Runs.addL (b := [32]) rfl rfl rfl (by simp only [List.length_append, List.length_cons, List.length_nil]; omega)) rfl rfl rfl ?_
    have i0 := hil (bindT e.op).2
    refine Seq.call (Enters.func rfl rfl rfl (run_enter Try.func78 (by kernel_rfl) rfl)) rfl rfl rfl ((writeS_both B g ([32] ++ (bindT e.op).1 ++ [32]) _ _ wr (bt3 (by decide) b2 (by decide)) (by simp only [List.length_append, List.length_cons, List.length_nil]; omega)).1) ?_
    clear wr
    rintro e w6 ⟨⟨_, rfl⟩, fw6, wr⟩
    refine ⟨_, rfl, ?_⟩
    replace wt := wt.wt fw6
    replace k3 := k3.wt fw6
    replace k4 := k4.wt fw6
    refine Seq.nil ?_
    refine Post.weak (F' := [(3, _), (4, _), (6, _), (7, _), (8, _), (9, _), (28, _), (31, _), (56, _), (65, _), (74, _), (82, _), (88, _), (92, _), (96, _), (100, _)]) ⟨rfl, rfl, rfl, rfl, rfl, rfl, rfl, rfl, rfl, rfl, rfl, rfl, rfl, rfl, rfl, rfl, trivial⟩ ?_
    refine Post.then_ ?_
    refine Cd.draw 7 (by kernel_rfl) [] (.inl rfl) rfl Grow Grow.refl (fun _ _ _ => Grow.trans) ?_
    intro w7 hw7 zw7
    replace wt := wt.step hw7
    replace wr := wr.step hw7
    replace k3 := k3.step hw7
    replace k4 := k4.step hw7
    have zlt := k4.lt
    refine Dr.val Grow.refl rfl (fun w hG => Runs.loadB rfl rfl Try.underlying77 rfl (k3.step hG) rfl) rfl ?_
    refine Dr.val Grow.refl rfl (fun w hG => Runs.fieldB 3 rfl rfl Try.underlying35 rfl (by kernel_rfl)) rfl ?_
    refine Dr.val Grow.refl rfl (fun w hG => Runs.loadB rfl rfl Try.underlying25 rfl (k4.step hG) rfl) rfl ?_
    refine Dr.val Grow.refl rfl (fun w hG => Runs.indexN rfl rfl rfl Try.underlying25 (s := 4) (by kernel_rfl) (j := 1) rfl (by omega)) rfl ?_
    refine Dr.val Grow.refl rfl (fun w hG => Runs.loadF (ps := [.int .i64 y.op, .int .i64 y.n, .string (strOf y.name), .slice A1 y.args.length A1']) rfl rfl Try.underlying35 rfl (m := 4) (by kernel_rfl) rfl (hcy _ ((wt.to hBW).trans (hG.mono wr.size)))) rfl ?_
    refine Dr.val Grow.refl rfl (fun w hG => Runs.move rfl rfl) rfl ?_
    refine Dr.val Grow.refl rfl (fun w hG => Runs.addI rfl rfl rfl (by omega) (by omega)) rfl ?_
    refine Dr.nil ?_
    refine FinX.done (F' := [(3, _), (4, _), (6, _), (7, _), (8, _), (9, _), (28, _), (31, _), (48, _), (52, _), (54, _), (56, _), (65, _), (74, _), (82, _), (88, _), (92, _), (96, _), (100, _)]) rfl ⟨rfl, rfl, rfl, rfl, rfl, rfl, rfl, rfl, rfl, rfl, rfl, rfl, rfl, rfl, rfl, rfl, rfl, rfl, rfl, trivial⟩ ?_
    intro w8 hw8 fw8
    replace wt := wt.step hw8
    replace wr := wr.step hw8
    replace k3 := k3.step hw8
    replace k4 := k4.step hw8
    refine Seq.call (Enters.func rfl rfl rfl (run_enter Try.func43 (by kernel_rfl) rfl)) rfl rfl rfl (hcally _ _ ((bindT e.op).2 + 1) (wt.to hBW) wr (by unfold I64; omega) (by simp only [List.length_append, List.length_cons, List.length_nil]; omega)) ?_
    clear wr
    rintro e w9 ⟨⟨_, rfl⟩, fw9, wr⟩
    refine ⟨_, rfl, ?_⟩
    replace wt := wt.wt fw9
    refine Seq.nil ?_
    refine Post.weak (F' := [(3, _), (4, _), (6, _), (7, _), (8, _), (9, _), (28, _), (31, _), (56, _), (65, _), (74, _), (82, _), (88, _), (92, _), (96, _), (100, _)]) ⟨rfl, rfl, rfl, rfl, rfl, rfl, rfl, rfl, rfl, rfl, rfl, rfl, rfl, rfl, rfl, rfl, trivial⟩ ?_
    refine Post.block_normal ?_
    refine Post.weak (F' := []) trivial ?_
    exact hend _ _ (.inr rfl) wt (by rw [hT]; simpa only [List.append_assoc, inT] using wr)
end Go.Proofs.Ytijaldpmpjapiaa

namespace Go.Proofs.Ytijaldpmpjapiaa
open Go.RowKit

def prText (right : Bool) (T : List Nat) : List Nat × Int := if right = false then ([], 1) else if 4000 < T.length then ([], 4) else (T, 0)
theorem run_build_writer (w : World) : (Instr.build 112 #[]).run Try.prog w = .ok (.agg #[.pointer none, .slice none 0 0]) w := by kernel_rfl
theorem printed_any (right : Bool) (T : List Nat) (f : Nat) (cp : List Value) (w : World) (eg : ∀ args w, (callFunc f args).run Try.prog w = .ok (.enter f args) w) (hTl : T.length ≤ 1000000)
    (hw : right = true → ∀ W g, Below w.heap.size w W → Bw W w.heap.size g [] → Calls Try.prog f ([] ++ [Value.pointer (some ⟨g, 0, none⟩)] ++ cp).toArray W (WrRet w.heap.size g T W)) :
    Calls Try.prog 40 #[.bool right, .func (.func f) #[] cp.toArray] w fun e w' => e = .returned (.tuple #[.string (strOf (prText right T).1), .int .i64 (prText right T).2]) ∧ Grow w w' := by
  have bel := Below.refl w.heap.size w
  unfold prText
  refine Calls.start 23 Try.func40 rfl rfl rfl ?_
  refine Cd.seq ?_
  refine Cd.region ?_
  refine Seq.val (Runs.assign rfl rfl) rfl rfl rfl ?_
  refine Seq.val (Runs.assign rfl rfl) rfl rfl rfl ?_
  refine Seq.nil ?_
  refine Post.weak (F' := [(0, _), (1, _), (4, _), (5, _)]) ⟨rfl, rfl, rfl, rfl, trivial⟩ ?_
  refine Post.then_ ?_
  refine Cd.seq ?_
  refine Cd.seq ?_
  refine Cd.region ?_
  refine Seq.val (Runs.move rfl rfl) rfl rfl rfl ?_
  refine Seq.val (Runs.not rfl rfl) rfl rfl rfl ?_
  refine Seq.nil ?_
  refine Post.weak (F' := [(0, _), (1, _), (4, _), (5, _), (8, _)]) ⟨rfl, rfl, rfl, rfl, rfl, trivial⟩ ?_
  refine Post.then_ ?_
  refine Cd.cond rfl (fun hc => ?_) (fun hc => ?_)
  · obtain rfl : right = false := by simpa using hc
    refine Cd.seq ?_
    refine Cd.region ?_
    refine Seq.val (Runs.assign rfl rfl) rfl rfl rfl ?_
    refine Seq.val (Runs.assign rfl rfl) rfl rfl rfl ?_
    refine Seq.nil ?_
    refine Post.weak (F' := [(0, _), (1, _), (4, _), (5, _), (8, _)]) ⟨rfl, rfl, rfl, rfl, rfl, trivial⟩ ?_
    refine Post.then_ ?_
    refine Cd.ret ?_
    refine Post.then_ret ?_
    refine Post.end2 rfl rfl rfl (.inl rfl) ?_
    exact ⟨rfl, bel⟩
  · obtain rfl : right = true := by simpa using hc
    have hw := hw rfl
    refine Cd.skip ?_
    refine Post.then_ ?_
    refine Cd.seq ?_
    refine Cd.region ?_
    refine Seq.val (Runs.build rfl rfl (run_build_writer _)) rfl rfl rfl ?_
    refine Seq.box rfl rfl rfl rfl rfl ?_
    intro g10 w1 n10
    have e10 := Nat.le_trans bel.size n10.ge
    replace bel := bel.step n10.below
    have k10 := n10.blk
    refine Seq.val (Runs.assign rfl rfl) rfl rfl rfl ?_
    refine Seq.nil ?_
    refine Post.weak (F' := [(0, _), (1, _), (4, _), (5, _), (6, _), (8, _)]) ⟨rfl, rfl, rfl, rfl, rfl, rfl, trivial⟩ ?_
    refine Post.then_ ?_
    refine Cd.seq ?_
    refine Cd.region ?_
    refine Seq.val (Runs.move rfl rfl) rfl rfl rfl ?_
    refine Seq.val (Runs.move rfl rfl) rfl rfl rfl ?_
    have wr : Bw _ w.heap.size g10 [] := ⟨e10, fun d hd => (by cases hd), _, _, .inl rfl, k10, Own.nil _ _ _ _, fun _ => rfl⟩
    have wt := Wt.grow (B := w.heap.size) bel
    refine Seq.call (Enters.value (first := []) rfl rfl rfl eg) rfl rfl rfl (hw _ g10 bel wr) ?_
    clear wr
    rintro en w9 ⟨⟨_, rfl⟩, f9, wr⟩
    refine ⟨_, rfl, ?_⟩
    replace wt := wt.wt f9
    refine Seq.nil ?_
    refine Post.weak (F' := [(0, _), (1, _), (4, _), (5, _), (6, _), (8, _)]) ⟨rfl, rfl, rfl, rfl, rfl, rfl, trivial⟩ ?_
    refine Post.then_ ?_
    refine Cd.seq ?_
    refine Cd.seq ?_
    refine Cd.region ?_
    refine Seq.val (Runs.move rfl rfl) rfl rfl rfl ?_
    refine Seq.val (Runs.nilCheck rfl rfl) rfl rfl rfl ?_
    refine Seq.val (Runs.fieldB 0 rfl rfl Try.underlying112 rfl (by kernel_rfl)) rfl rfl rfl ?_
    have hBw := wr.size
    refine Seq.call (Enters.func rfl rfl rfl (run_enter Try.func73 (by kernel_rfl) rfl)) rfl rfl rfl (blen_any w.heap.size g10 _ _ wr) ?_
    rintro en w10 ⟨rfl, hb10⟩
    refine ⟨_, rfl, ?_⟩
    replace wt := wt.step hb10
    replace wr := wr.step hb10
    refine Seq.val (Runs.gtr rfl rfl rfl) rfl rfl rfl ?_
    refine Seq.nil ?_
    refine Post.weak (F' := [(0, _), (1, _), (4, _), (5, _), (6, _), (8, _), (18, _)]) ⟨rfl, rfl, rfl, rfl, rfl, rfl, rfl, trivial⟩ ?_
    refine Post.then_ ?_
    refine Cd.condD rfl (fun hc => ?_) (fun hc => ?_)
    · skip
      refine Cd.seq ?_
      refine Cd.region ?_
      refine Seq.val (Runs.assign rfl rfl) rfl rfl rfl ?_
      refine Seq.val (Runs.assign rfl rfl) rfl rfl rfl ?_
      refine Seq.nil ?_
      refine Post.weak (F' := [(0, _), (1, _), (4, _), (5, _), (6, _), (8, _), (18, _)]) ⟨rfl, rfl, rfl, rfl, rfl, rfl, rfl, trivial⟩ ?_
      refine Post.then_ ?_
      refine Cd.ret ?_
      refine Post.then_ret ?_
      refine Post.end2 rfl rfl rfl (.inl rfl) ?_
      rw [if_neg (by decide), if_pos (by omega)]
      exact ⟨rfl, wt.to (Nat.le_refl _)⟩
    · skip
      refine Cd.skip ?_
      refine Post.then_ ?_
      refine Cd.seq ?_
      refine Cd.region ?_
      refine Seq.val (Runs.move rfl rfl) rfl rfl rfl ?_
      refine Seq.val (Runs.nilCheck rfl rfl) rfl rfl rfl ?_
      refine Seq.val (Runs.fieldB 0 rfl rfl Try.underlying112 rfl (by kernel_rfl)) rfl rfl rfl ?_
      refine Seq.call (Enters.func rfl rfl rfl (run_enter Try.func74 (by kernel_rfl) rfl)) rfl rfl rfl (bstring_any w.heap.size g10 _ _ wr (by omega)) ?_
      rintro en w11 ⟨rfl, hb11⟩
      refine ⟨_, rfl, ?_⟩
      have hfin := (wt.to (Nat.le_refl _)).trans hb11
      refine Seq.val (Runs.assign rfl rfl) rfl rfl rfl ?_
      refine Seq.val (Runs.assign rfl rfl) rfl rfl rfl ?_
      refine Seq.nil ?_
      refine Post.weak (F' := [(0, _), (1, _), (4, _), (5, _), (6, _), (8, _), (18, _)]) ⟨rfl, rfl, rfl, rfl, rfl, rfl, rfl, trivial⟩ ?_
      refine Post.then_ ?_
      refine Cd.ret ?_
      refine Post.end2 rfl rfl rfl (.inl rfl) ?_
      rw [if_neg (by decide), if_neg (by omega)]
      exact ⟨by simp, hfin⟩
theorem exprCall_of (e : Ex) (A : Option Addr) (B g g1 c : Nat) (w W : World) (hbt : builtB e = true) (h200 : e.nodes ≤ 200) (hrep : Rep w B (e) (.agg #[.int .i64 e.op, .int .i64 e.n, .string (strOf e.name), .slice A e.args.length c])) (hb : Below B w W) (k1 : Blk W g1 35 #[.int .i64 e.op, .int .i64 e.n, .string (strOf e.name), .slice A e.args.length c]) (wr : Bw W B g []) :
    Calls Try.prog 42 #[.pointer (some ⟨g, 0, none⟩), .pointer (some ⟨g1, 0, none⟩)] W (WrRet B g (exprT e) W) := by
  have hdn := e.depth_nodes
  have hex := exprW_any e.nodes e B g [] _ 1 W (Nat.le_refl _) h200 hbt (hrep.below hb) wr (by unfold I64; omega) (by simp only [List.length_nil]; omega)
  rw [inT_one, List.nil_append] at hex
  have wt := Wt.refl B W
  refine Calls.start 6 Try.func42 rfl rfl rfl ?_
  refine Cd.region ?_
  refine Seq.val (Runs.move rfl rfl) rfl rfl rfl ?_
  refine Seq.val (Runs.loadW rfl rfl Try.underlying35 rfl k1 (m := 4) (by kernel_rfl) rfl) rfl rfl rfl ?_
  refine Seq.call (Enters.func rfl rfl rfl (run_enter Try.func43 (by kernel_rfl) rfl)) rfl rfl rfl (hex) ?_
  clear wr
  rintro e w1 ⟨⟨_, rfl⟩, fw1, wr⟩
  refine ⟨_, rfl, ?_⟩
  replace wt := wt.wt fw1
  refine Seq.nil ?_
  refine Post.weak (F' := [(0, _), (1, _)]) ⟨rfl, rfl, trivial⟩ ?_
  refine Post.end0 rfl (.inr rfl) ?_
  exact ⟨⟨_, rfl⟩, wt, wr⟩
theorem eg_expr1 : ∀ args w, (callFunc 42 args).run Try.prog w = .ok (.enter 42 args) w := fun args w => run_enter Try.func42 (by kernel_rfl) rfl args w
/-- What print.Expr answers. -/
def printE (e : Ex) : List Nat × Int := prText (rightB e) (exprT e)
theorem printExpr_any (e : Ex) (v : Value) (w : World) (hd : e.depth ≤ 900) (hrep : Rep w w.heap.size e v) : Calls Try.prog 15 #[v] w fun en w' => en = .returned (.tuple #[.string (strOf (printE e).1), .int .i64 (printE e).2]) ∧ Grow w w' := by
  obtain ⟨A, c, rfl, hv⟩ := hrep.open
  have bel := Below.refl w.heap.size w
  have hpr : printE e = prText (rightB e) (if rightB e = true then exprT e else []) := by
    unfold printE prText
    cases rightB e <;> rfl
  rw [hpr]
  have hre : ∀ W, Below w.heap.size w W → Calls Try.prog 41 #[.agg #[.int .i64 e.op, .int .i64 e.n, .string (strOf e.name), .slice A e.args.length c]] W fun en w' => en = .returned (.bool (rightB e)) ∧ Grow W w' := fun W hb => rightExpr_any e w.heap.size _ W hd (hrep.below hb) hb.size
  have hTl : (if rightB e = true then exprT e else []).length ≤ 1000000 := by
    split
    · rename_i h
      unfold rightB at h
      simp at h
      have := (exprT_bd e.nodes e (Nat.le_refl _) h.2).1
      omega
    · simp
  refine Calls.start 10 Try.func15 rfl rfl rfl ?_
  refine Cd.seq ?_
  refine Cd.region ?_
  refine Seq.box rfl rfl rfl rfl rfl ?_
  intro g1 w1 n1
  have e1 := Nat.le_trans bel.size n1.ge
  replace bel := bel.step n1.below
  have k1 := n1.blk
  refine Seq.val (Runs.assign rfl rfl) rfl rfl rfl ?_
  refine Seq.val (Runs.assign rfl rfl) rfl rfl rfl ?_
  refine Seq.nil ?_
  refine Post.weak (F' := [(0, _), (1, _), (2, _), (3, _)]) ⟨rfl, rfl, rfl, rfl, trivial⟩ ?_
  refine Post.then_ ?_
  refine Cd.seq ?_
  refine Cd.region ?_
  refine Seq.val (Runs.loadW rfl rfl Try.underlying35 rfl k1 (m := 4) (by kernel_rfl) rfl) rfl rfl rfl ?_
  refine Seq.call (Enters.func rfl rfl rfl (run_enter Try.func41 (by kernel_rfl) rfl)) rfl rfl rfl (hre _ bel) ?_
  rintro en w5 ⟨rfl, hb5⟩
  refine ⟨_, rfl, ?_⟩
  replace bel := bel.step hb5
  replace k1 := k1.step hb5
  refine Seq.val (Runs.makeFunc (v := .func (.func 42) #[] #[.pointer (some ⟨g1, 0, none⟩)]) rfl (show evL _ _ = some [] from rfl) (show evL _ _ = some [.pointer (some ⟨g1, 0, none⟩)] from rfl) rfl) rfl rfl rfl ?_
  refine Seq.call (Enters.func rfl rfl rfl (run_enter Try.func40 (by kernel_rfl) rfl)) rfl rfl rfl (printed_any (rightB e) (if rightB e = true then exprT e else []) 42 [.pointer (some ⟨g1, 0, none⟩)] _ eg_expr1 hTl (fun hr W g hb hw => by rw [if_pos hr]; unfold rightB at hr; simp at hr; exact exprCall_of e A _ g g1 c _ W hr.2 hr.1.1 ((hrep.below bel).more bel.size) hb (k1.step hb) hw)) ?_
  rintro en w6 ⟨rfl, hb6⟩
  refine ⟨_, rfl, ?_⟩
  replace bel := bel.step hb6
  replace k1 := k1.step hb6
  refine Seq.val (Runs.extract rfl rfl rfl) rfl rfl rfl ?_
  refine Seq.val (Runs.extract rfl rfl rfl) rfl rfl rfl ?_
  refine Seq.val (Runs.assign rfl rfl) rfl rfl rfl ?_
  refine Seq.val (Runs.assign rfl rfl) rfl rfl rfl ?_
  refine Seq.nil ?_
  refine Post.weak (F' := [(0, _), (1, _), (2, _), (3, _)]) ⟨rfl, rfl, rfl, rfl, trivial⟩ ?_
  refine Post.then_ ?_
  refine Cd.ret ?_
  refine Post.end2 rfl rfl rfl (.inl rfl) ?_
  exact ⟨rfl, bel⟩
end Go.Proofs.Ytijaldpmpjapiaa

namespace Go.Proofs.Ytijaldpmpjapiaa
open Go.RowKit

theorem tell_any (right : Bool) (T : List Nat) (w : World) (hT : T.length ≤ 1000000) : Calls Try.prog 18 #[.string (strOf (prText right T).1), .int .i64 (prText right T).2, .bool right, .string (strOf (if right = true then T else []))] w fun e w' => e = .returned (.bool true) ∧ Grow w w' := by
  have bel := Below.refl w.heap.size w
  have hsz : (strOf T).size = T.length := strOf_size T
  unfold prText
  cases right with
  | false =>
    rw [if_pos rfl]
    refine Calls.start 35 Try.func18 rfl rfl rfl ?_
    refine Cd.seq ?_
    refine Cd.region ?_
    refine Seq.val (Runs.assign rfl rfl) rfl rfl rfl ?_
    refine Seq.nil ?_
    refine Post.weak (F' := [(0, _), (1, _), (2, _), (3, _), (8, _)]) ⟨rfl, rfl, rfl, rfl, rfl, trivial⟩ ?_
    refine Post.then_ ?_
    refine Cd.seq ?_
    refine Cd.block ?_
    refine Cd.seq ?_
    refine Cd.region ?_
    refine Seq.val (Runs.move rfl rfl) rfl rfl rfl ?_
    refine Seq.val (Runs.not rfl rfl) rfl rfl rfl ?_
    refine Seq.val (Runs.assign rfl rfl) rfl rfl rfl ?_
    refine Seq.nil ?_
    refine Post.weak (F' := [(0, _), (1, _), (2, _), (3, _), (8, _), (9, _)]) ⟨rfl, rfl, rfl, rfl, rfl, rfl, trivial⟩ ?_
    refine Post.then_ ?_
    refine Cd.condT rfl rfl ?_
    refine Cd.seq ?_
    refine Cd.region ?_
    refine Seq.val (Runs.move rfl rfl) rfl rfl rfl ?_
    refine Seq.val (Runs.eqlS rfl rfl rfl) rfl rfl rfl ?_
    refine Seq.val (Runs.move rfl rfl) rfl rfl rfl ?_
    refine SeqC.start ?_
    refine SeqC.open rfl rfl rfl rfl rfl rfl rfl (fun hcx => Runs.move rfl rfl) ?_
    refine SeqC.next rfl rfl rfl rfl rfl rfl rfl (fun hcx => Runs.eqlI rfl rfl rfl) ?_
    refine SeqC.and rfl rfl rfl rfl rfl rfl rfl ?_
    refine Seq.val (Runs.assign rfl rfl) rfl rfl rfl ?_
    refine Seq.nil ?_
    refine Post.weak (F' := [(0, _), (1, _), (2, _), (3, _), (8, _), (9, _)]) ⟨rfl, rfl, rfl, rfl, rfl, rfl, trivial⟩ ?_
    refine Post.then_ ?_
    refine Cd.ret ?_
    refine Post.block_ret ?_
    refine Post.then_ret ?_
    refine Post.end1 rfl rfl (.inl rfl) ?_
    exact ⟨ret1 (bool_eq (by simp [strOf])), bel⟩
  | true =>
    rw [if_neg (by decide), if_pos rfl]
    by_cases h : 4000 < T.length
    · rw [if_pos h]
      refine Calls.start 35 Try.func18 rfl rfl rfl ?_
      refine Cd.seq ?_
      refine Cd.region ?_
      refine Seq.val (Runs.assign rfl rfl) rfl rfl rfl ?_
      refine Seq.nil ?_
      refine Post.weak (F' := [(0, _), (1, _), (2, _), (3, _), (8, _)]) ⟨rfl, rfl, rfl, rfl, rfl, trivial⟩ ?_
      refine Post.then_ ?_
      refine Cd.seq ?_
      refine Cd.block ?_
      refine Cd.seq ?_
      refine Cd.region ?_
      refine Seq.val (Runs.move rfl rfl) rfl rfl rfl ?_
      refine Seq.val (Runs.not rfl rfl) rfl rfl rfl ?_
      refine Seq.val (Runs.assign rfl rfl) rfl rfl rfl ?_
      refine Seq.nil ?_
      refine Post.weak (F' := [(0, _), (1, _), (2, _), (3, _), (8, _), (9, _)]) ⟨rfl, rfl, rfl, rfl, rfl, rfl, trivial⟩ ?_
      refine Post.then_ ?_
      refine Cd.condF rfl rfl ?_
      refine Cd.seq ?_
      refine Cd.region ?_
      refine Seq.val (Runs.move rfl rfl) rfl rfl rfl ?_
      refine Seq.val (Runs.lenS rfl rfl Try.underlying9) rfl rfl rfl ?_
      refine Seq.val (Runs.gtr rfl rfl rfl) rfl rfl rfl ?_
      refine Seq.val (Runs.assign rfl rfl) rfl rfl rfl ?_
      refine Seq.nil ?_
      refine Post.weak (F' := [(0, _), (1, _), (2, _), (3, _), (8, _), (9, _), (18, _)]) ⟨rfl, rfl, rfl, rfl, rfl, rfl, rfl, trivial⟩ ?_
      refine Post.then_ ?_
      refine Cd.condT rfl (decide_eq_true (by omega)) ?_
      refine Cd.seq ?_
      refine Cd.region ?_
      refine Seq.val (Runs.move rfl rfl) rfl rfl rfl ?_
      refine Seq.val (Runs.eqlS rfl rfl rfl) rfl rfl rfl ?_
      refine Seq.val (Runs.move rfl rfl) rfl rfl rfl ?_
      refine SeqC.start ?_
      refine SeqC.open rfl rfl rfl rfl rfl rfl rfl (fun hcx => Runs.move rfl rfl) ?_
      refine SeqC.next rfl rfl rfl rfl rfl rfl rfl (fun hcx => Runs.eqlI rfl rfl rfl) ?_
      refine SeqC.and rfl rfl rfl rfl rfl rfl rfl ?_
      refine Seq.val (Runs.assign rfl rfl) rfl rfl rfl ?_
      refine Seq.nil ?_
      refine Post.weak (F' := [(0, _), (1, _), (2, _), (3, _), (8, _), (9, _), (18, _)]) ⟨rfl, rfl, rfl, rfl, rfl, rfl, rfl, trivial⟩ ?_
      refine Post.then_ ?_
      refine Cd.ret ?_
      refine Post.block_ret ?_
      refine Post.then_ret ?_
      refine Post.end1 rfl rfl (.inl rfl) ?_
      exact ⟨ret1 (bool_eq (by simp [strOf])), bel⟩
    · rw [if_neg h]
      refine Calls.start 35 Try.func18 rfl rfl rfl ?_
      refine Cd.seq ?_
      refine Cd.region ?_
      refine Seq.val (Runs.assign rfl rfl) rfl rfl rfl ?_
      refine Seq.nil ?_
      refine Post.weak (F' := [(0, _), (1, _), (2, _), (3, _), (8, _)]) ⟨rfl, rfl, rfl, rfl, rfl, trivial⟩ ?_
      refine Post.then_ ?_
      refine Cd.seq ?_
      refine Cd.block ?_
      refine Cd.seq ?_
      refine Cd.region ?_
      refine Seq.val (Runs.move rfl rfl) rfl rfl rfl ?_
      refine Seq.val (Runs.not rfl rfl) rfl rfl rfl ?_
      refine Seq.val (Runs.assign rfl rfl) rfl rfl rfl ?_
      refine Seq.nil ?_
      refine Post.weak (F' := [(0, _), (1, _), (2, _), (3, _), (8, _), (9, _)]) ⟨rfl, rfl, rfl, rfl, rfl, rfl, trivial⟩ ?_
      refine Post.then_ ?_
      refine Cd.condF rfl rfl ?_
      refine Cd.seq ?_
      refine Cd.region ?_
      refine Seq.val (Runs.move rfl rfl) rfl rfl rfl ?_
      refine Seq.val (Runs.lenS rfl rfl Try.underlying9) rfl rfl rfl ?_
      refine Seq.val (Runs.gtr rfl rfl rfl) rfl rfl rfl ?_
      refine Seq.val (Runs.assign rfl rfl) rfl rfl rfl ?_
      refine Seq.nil ?_
      refine Post.weak (F' := [(0, _), (1, _), (2, _), (3, _), (8, _), (9, _), (18, _)]) ⟨rfl, rfl, rfl, rfl, rfl, rfl, rfl, trivial⟩ ?_
      refine Post.then_ ?_
      refine Cd.condF rfl (decide_eq_false (by omega)) ?_
      refine Cd.skip ?_
      refine Post.block_normal ?_
      refine Post.then_ ?_
      refine Cd.seq ?_
      refine Cd.region ?_
      refine Seq.val (Runs.move rfl rfl) rfl rfl rfl ?_
      refine Seq.val (Runs.move rfl rfl) rfl rfl rfl ?_
      refine Seq.val (Runs.eqlS rfl rfl rfl) rfl rfl rfl ?_
      refine Seq.val (Runs.move rfl rfl) rfl rfl rfl ?_
      refine SeqC.start ?_
      refine SeqC.open rfl rfl rfl rfl rfl rfl rfl (fun hcx => Runs.move rfl rfl) ?_
      refine SeqC.next rfl rfl rfl rfl rfl rfl rfl (fun hcx => Runs.eqlI rfl rfl rfl) ?_
      refine SeqC.and rfl rfl rfl rfl rfl rfl rfl ?_
      refine Seq.val (Runs.assign rfl rfl) rfl rfl rfl ?_
      refine Seq.nil ?_
      refine Post.weak (F' := [(0, _), (1, _), (2, _), (3, _), (8, _), (9, _), (18, _)]) ⟨rfl, rfl, rfl, rfl, rfl, rfl, rfl, trivial⟩ ?_
      refine Post.then_ ?_
      refine Cd.ret ?_
      refine Post.end1 rfl rfl (.inl rfl) ?_
      exact ⟨ret1 (bool_eq (by simp)), bel⟩
/-- A concrete expression of two. -/
theorem Rep.two {w : World} {g : Nat} {o : Int} {a b : Ex} {va vb : Value} {cs : Array Value} (k : Blk w g 35 cs) (hcs : cs.toList = flatC [va, vb]) (ho : I64 o) (ha : Rep w w.heap.size a va) (hb : Rep w w.heap.size b vb) :
    Rep w w.heap.size (.mk o 0 [] [a, b]) (.agg #[.int .i64 o, .int .i64 0, .string (strOf []), .slice (some ⟨g, 0, none⟩) 2 2]) := by
  refine RepE.mk (args := [a, b]) (vs := [va, vb]) rfl (by simp) ho (by unfold I64; omega) (by simp) (by simp) (fun i e v he hv => ?_) fun _ => ?_
  · match i, he, hv with
    | 0, he, hv => injection he with he; injection hv with hv; subst he hv; exact ha
    | 1, he, hv => injection he with he; injection hv with hv; subst he hv; exact hb
    | i + 2, he, hv => cases he
  · refine ⟨⟨g, 0, none⟩, rfl, k.lt, fun j u hu => ?_⟩
    rw [← hcs] at hu
    have hadd : (⟨g, 0, none⟩ : Addr).add j = ⟨g, j, none⟩ := by unfold Addr.add; split <;> simp_all
    rw [hadd, k.cell j]
    simpa using hu
theorem Rep.const (w : World) (o z : Int) (B : Nat) (ho : I64 o) (hz : I64 z) : Rep w B (.mk o z [] []) (.agg #[.int .i64 o, .int .i64 z, .string (strOf []), .slice none 0 0]) :=
  RepE.mk (args := []) (vs := []) rfl (by decide) ho hz (by simp) (by simp) (fun i e v he => by cases he) fun h => absurd rfl h
def cE (z : Int) : Ex := .mk 1 z [] []
def sE (a b : Ex) : Ex := .mk 6 0 [] [a, b]
theorem print_a : printE (sE (sE (cE 1) (cE 2)) (cE 3)) = ([49, 32, 45, 32, 50, 32, 45, 32, 51], 0) := by decide +kernel
theorem print_b : printE (sE (cE 3) (sE (cE 1) (cE 2))) = ([51, 32, 45, 32, 40, 49, 32, 45, 32, 50, 41], 0) := by decide +kernel
theorem depth_a : (sE (sE (cE 1) (cE 2)) (cE 3)).depth ≤ 900 := by decide +kernel
theorem depth_b : (sE (cE 3) (sE (cE 1) (cE 2))).depth ≤ 900 := by decide +kernel
theorem run_build_c (a b : Int) (w : World) : (Instr.build 35 #[(0, .int .i64 a), (1, .int .i64 b)]).run Try.prog w = .ok (.agg #[.int .i64 a, .int .i64 b, .string (strOf []), .slice none 0 0]) w := by
  have hu := Try.underlying35
  go_simp
  rfl
theorem run_build_s (a : Int) (g : Nat) (w : World) : (Instr.build 35 #[(0, .int .i64 a), (3, .slice (some ⟨g, 0, none⟩) 2 2)]).run Try.prog w = .ok (.agg #[.int .i64 a, .int .i64 0, .string (strOf []), .slice (some ⟨g, 0, none⟩) 2 2]) w := by
  have hu := Try.underlying35
  go_simp
  rfl
theorem Rep.step {w w' : World} {e : Ex} {v : Value} (h : Rep w w.heap.size e v) (hb : Below w.heap.size w w') : Rep w' w'.heap.size e v := (h.below hb).more hb.size
theorem awake20_any (w : World) : Calls Try.prog 13 #[] w fun e w' => e = .returned (.bool true) ∧ Grow w w' := by
  have bel := Below.refl w.heap.size w
  refine Calls.start 41 Try.func13 rfl rfl rfl ?_
  refine Cd.seq ?_
  refine Cd.region ?_
  refine Seq.val (Runs.assign rfl rfl) rfl rfl rfl ?_
  refine Seq.nil ?_
  refine Post.weak (F' := [(0, _)]) ⟨rfl, trivial⟩ ?_
  refine Post.then_ ?_
  refine Cd.seq ?_
  refine Cd.region ?_
  refine Seq.val (Runs.build rfl rfl (run_build_c 1 1 _)) rfl rfl rfl ?_
  refine Seq.val (Runs.build rfl rfl (run_build_c 1 2 _)) rfl rfl rfl ?_
  refine Seq.slice (vs := [_, _]) (s := 4) rfl rfl rfl Try.underlying25 (by kernel_rfl) (zero_api_Expr) (by omega) (by omega) ⟨rfl, rfl, trivial⟩ rfl rfl rfl ?_
  intro g8 w1 n8
  have e8 := Nat.le_trans bel.size n8.ge
  replace bel := bel.step n8.below
  have k8 := n8.blk
  refine Seq.val (Runs.assign rfl rfl) rfl rfl rfl ?_
  refine Seq.nil ?_
  refine Post.weak (F' := [(0, _), (1, _)]) ⟨rfl, rfl, trivial⟩ ?_
  refine Post.then_ ?_
  refine Cd.seq ?_
  refine Cd.region ?_
  refine Seq.val (Runs.move rfl rfl) rfl rfl rfl ?_
  have r1 : ∀ W z, I64 z → Rep W W.heap.size (cE z) (.agg #[.int .i64 1, .int .i64 z, .string (strOf []), .slice none 0 0]) := fun W z hz => Rep.const W 1 z _ (by unfold I64; omega) hz
  have i1 : I64 1 := by unfold I64; omega
  have i2 : I64 2 := by unfold I64; omega
  have i3 : I64 3 := by unfold I64; omega
  have i6 : I64 6 := by unfold I64; omega
  have hab : Rep _ _ (sE (cE 1) (cE 2)) _ := Rep.two k8 rfl i6 (r1 _ 1 i1) (r1 _ 2 i2)
  refine Seq.val (Runs.build rfl rfl (run_build_s 6 g8 _)) rfl rfl rfl ?_
  refine Seq.val (Runs.build rfl rfl (run_build_c 1 3 _)) rfl rfl rfl ?_
  refine Seq.slice (vs := [_, _]) (s := 4) rfl rfl rfl Try.underlying25 (by kernel_rfl) (zero_api_Expr) (by omega) (by omega) ⟨rfl, rfl, trivial⟩ rfl rfl rfl ?_
  intro g13 w2 n13
  have e13 := Nat.le_trans bel.size n13.ge
  replace bel := bel.step n13.below
  replace hab := hab.step n13.below
  have k13 := n13.blk
  refine Seq.val (Runs.build rfl rfl (run_build_s 6 g13 _)) rfl rfl rfl ?_
  have ha := printExpr_any _ _ _ depth_a (Rep.two k13 rfl i6 hab (r1 _ 3 i3))
  rw [print_a] at ha
  refine Seq.call (Enters.func rfl rfl rfl (run_enter Try.func15 (by kernel_rfl) rfl)) rfl rfl rfl (ha) ?_
  rintro en w5 ⟨rfl, hb5⟩
  refine ⟨_, rfl, ?_⟩
  replace bel := bel.step hb5
  replace hab := hab.step hb5
  refine Seq.val (Runs.move rfl rfl) rfl rfl rfl ?_
  refine Seq.val (Runs.extract rfl rfl rfl) rfl rfl rfl ?_
  refine Seq.val (Runs.extract rfl rfl rfl) rfl rfl rfl ?_
  refine Seq.val (Runs.assign rfl rfl) rfl rfl rfl ?_
  refine Seq.val (Runs.assign rfl rfl) rfl rfl rfl ?_
  refine Seq.nil ?_
  refine Post.weak (F' := [(0, _), (1, _), (2, _), (3, _)]) ⟨rfl, rfl, rfl, rfl, trivial⟩ ?_
  refine Post.then_ ?_
  refine Cd.seq ?_
  refine Cd.region ?_
  refine Seq.val (Runs.build rfl rfl (run_build_c 1 3 _)) rfl rfl rfl ?_
  refine Seq.val (Runs.move rfl rfl) rfl rfl rfl ?_
  refine Seq.val (Runs.build rfl rfl (run_build_s 6 g8 _)) rfl rfl rfl ?_
  refine Seq.slice (vs := [_, _]) (s := 4) rfl rfl rfl Try.underlying25 (by kernel_rfl) (zero_api_Expr) (by omega) (by omega) ⟨rfl, rfl, trivial⟩ rfl rfl rfl ?_
  intro g22 w3 n22
  have e22 := Nat.le_trans bel.size n22.ge
  replace bel := bel.step n22.below
  replace hab := hab.step n22.below
  have k22 := n22.blk
  refine Seq.val (Runs.build rfl rfl (run_build_s 6 g22 _)) rfl rfl rfl ?_
  have hb := printExpr_any _ _ _ depth_b (Rep.two k22 rfl i6 (r1 _ 3 i3) hab)
  rw [print_b] at hb
  refine Seq.call (Enters.func rfl rfl rfl (run_enter Try.func15 (by kernel_rfl) rfl)) rfl rfl rfl (hb) ?_
  rintro en w6 ⟨rfl, hb6⟩
  refine ⟨_, rfl, ?_⟩
  replace bel := bel.step hb6
  replace hab := hab.step hb6
  refine Seq.val (Runs.move rfl rfl) rfl rfl rfl ?_
  refine Seq.val (Runs.extract rfl rfl rfl) rfl rfl rfl ?_
  refine Seq.val (Runs.extract rfl rfl rfl) rfl rfl rfl ?_
  refine Seq.val (Runs.assign rfl rfl) rfl rfl rfl ?_
  refine Seq.val (Runs.assign rfl rfl) rfl rfl rfl ?_
  refine Seq.nil ?_
  refine Post.weak (F' := [(0, _), (1, _), (2, _), (3, _), (4, _), (5, _)]) ⟨rfl, rfl, rfl, rfl, rfl, rfl, trivial⟩ ?_
  refine Post.then_ ?_
  refine Cd.seq ?_
  refine Cd.region ?_
  refine Seq.val (Runs.move rfl rfl) rfl rfl rfl ?_
  refine Seq.val (Runs.eqlI rfl rfl rfl) rfl rfl rfl ?_
  refine Seq.val (Runs.move rfl rfl) rfl rfl rfl ?_
  refine SeqC.start ?_
  refine SeqC.open rfl rfl rfl rfl rfl rfl rfl (fun hcx => Runs.move rfl rfl) ?_
  refine SeqC.next rfl rfl rfl rfl rfl rfl rfl (fun hcx => Runs.eqlS rfl rfl rfl) ?_
  refine SeqC.and rfl rfl rfl rfl rfl rfl rfl ?_
  refine Seq.val (Runs.move rfl rfl) rfl rfl rfl ?_
  refine SeqC.start ?_
  refine SeqC.open rfl rfl rfl rfl rfl rfl rfl (fun hcx => Runs.move rfl rfl) ?_
  refine SeqC.next rfl rfl rfl rfl rfl rfl rfl (fun hcx => Runs.eqlI rfl rfl rfl) ?_
  refine SeqC.and rfl rfl rfl rfl rfl rfl rfl ?_
  refine Seq.val (Runs.move rfl rfl) rfl rfl rfl ?_
  refine SeqC.start ?_
  refine SeqC.open rfl rfl rfl rfl rfl rfl rfl (fun hcx => Runs.move rfl rfl) ?_
  refine SeqC.next rfl rfl rfl rfl rfl rfl rfl (fun hcx => Runs.eqlS rfl rfl rfl) ?_
  refine SeqC.and rfl rfl rfl rfl rfl rfl rfl ?_
  refine Seq.val (Runs.assign rfl rfl) rfl rfl rfl ?_
  refine Seq.nil ?_
  refine Post.weak (F' := [(0, _), (1, _), (2, _), (3, _), (4, _), (5, _)]) ⟨rfl, rfl, rfl, rfl, rfl, rfl, trivial⟩ ?_
  refine Post.then_ ?_
  refine Cd.ret ?_
  refine Post.end1 rfl rfl (.inl rfl) ?_
  have e1 : strOf [49, 32, 45, 32, 50, 32, 45, 32, 51] = { data := #[49, 32, 45, 32, 50, 32, 45, 32, 51] } := rfl
  have e2 : strOf [51, 32, 45, 32, 40, 49, 32, 45, 32, 50, 41] = { data := #[51, 32, 45, 32, 40, 49, 32, 45, 32, 50, 41] } := rfl
  exact ⟨ret1 (bool_eq (by simp [e1, e2])), bel⟩
end Go.Proofs.Ytijaldpmpjapiaa

namespace Go.Proofs.Ytijaldpmpjapiaa
open Go.RowKit

/-- A term. -/
inductive Tm where
  | mk (op : Int) (name : List Nat) (exprs : List Ex) (terms : List Tm)
def Tm.op : Tm → Int | .mk op _ _ _ => op
def Tm.name : Tm → List Nat | .mk _ nm _ _ => nm
def Tm.exprs : Tm → List Ex | .mk _ _ l _ => l
def Tm.terms : Tm → List Tm | .mk _ _ _ l => l
mutual
def Tm.nodes : Tm → Nat
  | .mk _ _ es l => 1 + nodesL es + nodesM l
def nodesM : List Tm → Nat
  | [] => 0
  | e :: r => e.nodes + nodesM r
end
mutual
def Tm.depth : Tm → Nat
  | .mk _ _ es l => 1 + max (depthL es) (depthM l)
def depthM : List Tm → Nat
  | [] => 0
  | e :: r => max e.depth (depthM r)
end
theorem Tm.nodes_mk (op : Int) (nm : List Nat) (es : List Ex) (l : List Tm) : (Tm.mk op nm es l).nodes = 1 + nodesL es + nodesM l := by rw [Tm.nodes]
theorem Tm.depth_mk (op : Int) (nm : List Nat) (es : List Ex) (l : List Tm) : (Tm.mk op nm es l).depth = 1 + max (depthL es) (depthM l) := by rw [Tm.depth]
theorem Tm.nodes_eq (t : Tm) : t.nodes = 1 + nodesL t.exprs + nodesM t.terms := by cases t; exact Tm.nodes_mk _ _ _ _
theorem Tm.depth_eq (t : Tm) : t.depth = 1 + max (depthL t.exprs) (depthM t.terms) := by cases t; exact Tm.depth_mk _ _ _ _
theorem nodesM_mem {l : List Tm} {t : Tm} (h : t ∈ l) : t.nodes ≤ nodesM l := by
  induction l with
  | nil => cases h
  | cons x r ih =>
    unfold nodesM
    rcases List.mem_cons.1 h with rfl | h
    · omega
    · have := ih h; omega
theorem depthM_mem {l : List Tm} {t : Tm} (h : t ∈ l) : t.depth ≤ depthM l := by
  induction l with
  | nil => cases h
  | cons x r ih =>
    unfold depthM
    rcases List.mem_cons.1 h with rfl | h
    · omega
    · have := ih h; omega
theorem Tm.term_nodes {t x : Tm} (h : x ∈ t.terms) : x.nodes < t.nodes := by have := nodesM_mem h; have := t.nodes_eq; omega
theorem Tm.term_depth {t x : Tm} (h : x ∈ t.terms) : x.depth < t.depth := by have := depthM_mem h; have := t.depth_eq; omega
theorem Tm.expr_nodes {t : Tm} {x : Ex} (h : x ∈ t.exprs) : x.nodes < t.nodes := by have := nodesL_mem h; have := t.nodes_eq; omega
theorem Tm.expr_depth {t : Tm} {x : Ex} (h : x ∈ t.exprs) : x.depth < t.depth := by have := depthL_mem h; have := t.depth_eq; omega
theorem Tm.nodes_pos (t : Tm) : 0 < t.nodes := by have := t.nodes_eq; omega
mutual
theorem Tm.depth_nodes : ∀ t : Tm, t.depth ≤ t.nodes
  | .mk _ _ es l => by unfold Tm.depth Tm.nodes; have := depthM_nodesM l; have := depthL_nodesL es; omega
theorem depthM_nodesM : ∀ l : List Tm, depthM l ≤ nodesM l
  | [] => Nat.le_refl _
  | e :: r => by unfold depthM nodesM; have := Tm.depth_nodes e; have := depthM_nodesM r; omega
end
/-- A value that is a term, its parts in blocks of a kind. -/
inductive RepT (w : World) (S : Nat → Prop) : Tm → Value → Prop
  | mk {op : Int} {nm : List Nat} {es : List Ex} {ts : List Tm} {A A' : Option Addr} {c c' : Nat} {vs us : List Value} (hl : vs.length = es.length) (hl' : us.length = ts.length) (h60 : es.length ≤ 1000) (h60' : ts.length ≤ 1000) (hop : I64 op) (hnm : ∀ d ∈ nm, d < 256) (hnl : nm.length ≤ 9223372036854775807)
      (hr : ∀ (i : Nat) (e : Ex) (v : Value), es[i]? = some e → vs[i]? = some v → RepE w S e v) (hr' : ∀ (i : Nat) (t : Tm) (v : Value), ts[i]? = some t → us[i]? = some v → RepT w S t v) (hA : Rows w S A (flatC vs)) (hA' : Rows w S A' (flatC us)) : RepT w S (.mk op nm es ts) (.agg #[.int .i64 op, .string (strOf nm), .slice A es.length c, .slice A' ts.length c'])
theorem Rows.mono {w w' : World} {S S' : Nat → Prop} {A : Option Addr} {xs : List Value} (h : Rows w S A xs) (hS : ∀ b, S b → S' b) (hc : ∀ p : Addr, S p.block → w'.cell? p = w.cell? p) : Rows w' S' A xs := fun hne => by
  obtain ⟨ad, e1, e2, e3⟩ := h hne
  exact ⟨ad, e1, hS _ e2, fun j u hu => (hc _ (by rw [block_of_add]; exact e2)).trans (e3 j u hu)⟩
theorem RepT.mono {w w' : World} {S S' : Nat → Prop} {t : Tm} {v : Value} (h : RepT w S t v) (hS : ∀ b, S b → S' b) (hc : ∀ p : Addr, S p.block → w'.cell? p = w.cell? p) : RepT w' S' t v := by
  induction h with
  | mk hl hl' h60 h60' hop hnm hnl hr hr' hA hA' ih => exact .mk hl hl' h60 h60' hop hnm hnl (fun i e v he hv => (hr i e v he hv).mono hS hc) ih (hA.mono hS hc) (hA'.mono hS hc)
def RepB (w : World) (B : Nat) (t : Tm) (v : Value) : Prop := RepT w (· < B) t v
theorem RepB.below {w w' : World} {B : Nat} {t : Tm} {v : Value} (h : RepB w B t v) (hb : Below B w w') : RepB w' B t v := RepT.mono h (fun _ h => h) (fun _ hp => hb.cell hp)
theorem RepB.more {w : World} {B B' : Nat} {t : Tm} {v : Value} (h : RepB w B t v) (hb : B ≤ B') : RepB w B' t v := RepT.mono h (fun _ h => Nat.lt_of_lt_of_le h hb) (fun _ _ => rfl)
theorem RepB.step {w w' : World} {t : Tm} {v : Value} (h : RepB w w.heap.size t v) (hb : Below w.heap.size w w') : RepB w' w'.heap.size t v := (h.below hb).more hb.size
theorem RepT.cells4 {w : World} {S : Nat → Prop} {t : Tm} {v : Value} (h : RepT w S t v) : v.cells.size = 4 := by
  cases h; rfl
theorem RepT.form {w : World} {S : Nat → Prop} {t : Tm} {v : Value} (h : RepT w S t v) : ∃ A c A' c', v = .agg #[.int .i64 t.op, .string (strOf t.name), .slice A t.exprs.length c, .slice A' t.terms.length c'] := by
  cases h; exact ⟨_, _, _, _, rfl⟩
/-- The cells of expressions in a row. -/
def ExAt (w : World) (B : Nat) (es : List Ex) (A : Option Addr) : Prop := ∀ i x, es[i]? = some x → ∃ ad A' c', A = some ad ∧ ad.block < B ∧ Rep w B x (.agg #[.int .i64 x.op, .int .i64 x.n, .string (strOf x.name), .slice A' x.args.length c']) ∧ ∀ (j : Nat) (u : Value), ([.int .i64 x.op, .int .i64 x.n, .string (strOf x.name), .slice A' x.args.length c'] : List Value)[j]? = some u → w.cell? ((ad.add (i * 4)).add j) = some u
def tmV (x : Tm) (A A' : Option Addr) (c c' : Nat) : List Value := [.int .i64 x.op, .string (strOf x.name), .slice A x.exprs.length c, .slice A' x.terms.length c']
def TmAt (w : World) (B : Nat) (ts : List Tm) (A : Option Addr) : Prop := ∀ i x, ts[i]? = some x → ∃ ad A1 A2 c1 c2, A = some ad ∧ ad.block < B ∧ RepB w B x (.agg #[.int .i64 x.op, .string (strOf x.name), .slice A1 x.exprs.length c1, .slice A2 x.terms.length c2]) ∧ ∀ (j : Nat) (u : Value), (tmV x A1 A2 c1 c2)[j]? = some u → w.cell? ((ad.add (i * 4)).add j) = some u
theorem ExAt.below {w w' : World} {B : Nat} {es : List Ex} {A : Option Addr} (h : ExAt w B es A) (hb : Below B w w') : ExAt w' B es A := fun i x hx => by
  obtain ⟨ad, A', c', e1, e2, e3, e4⟩ := h i x hx
  exact ⟨ad, A', c', e1, e2, e3.below hb, fun j u hu => (hb.cell (by rw [block_of_add, block_of_add]; exact e2)).trans (e4 j u hu)⟩
theorem TmAt.below {w w' : World} {B : Nat} {ts : List Tm} {A : Option Addr} (h : TmAt w B ts A) (hb : Below B w w') : TmAt w' B ts A := fun i x hx => by
  obtain ⟨ad, A1, A2, c1, c2, e1, e2, e3, e4⟩ := h i x hx
  exact ⟨ad, A1, A2, c1, c2, e1, e2, e3.below hb, fun j u hu => (hb.cell (by rw [block_of_add, block_of_add]; exact e2)).trans (e4 j u hu)⟩
theorem exAt_of {w : World} {B : Nat} {es : List Ex} {vs : List Value} {A : Option Addr} (hl : vs.length = es.length) (hr : ∀ (i : Nat) (e : Ex) (v : Value), es[i]? = some e → vs[i]? = some v → RepE w (· < B) e v) (hA : Rows w (· < B) A (flatC vs)) : ExAt w B es A := fun i x hx => by
  have hi := (List.getElem?_eq_some_iff.1 hx).1
  obtain ⟨v, hv⟩ : ∃ v, vs[i]? = some v := ⟨_, List.getElem?_eq_getElem (by omega)⟩
  have hrx := hr i x v hx hv
  have h4 : ∀ y ∈ vs, y.cells.size = 4 := fun y hy => by
    obtain ⟨k, hk, rfl⟩ := List.getElem_of_mem hy
    obtain ⟨z, hz⟩ : ∃ z, es[k]? = some z := ⟨_, List.getElem?_eq_getElem (by omega)⟩
    exact (hr k z _ hz (List.getElem?_eq_getElem hk)).cells4
  obtain ⟨A', c', rfl⟩ := hrx.form
  have hne : flatC vs ≠ [] := fun h0 => by have := flatC_at h4 hv 0 _ rfl; rw [h0] at this; cases this
  obtain ⟨ad, rfl, hb, hc⟩ := hA hne
  exact ⟨ad, A', c', rfl, hb, hrx, fun j u hu => by rw [add_of_add]; exact hc _ _ (flatC_at h4 hv j u (by simpa [Value.cells] using hu))⟩
theorem tmAt_of {w : World} {B : Nat} {ts : List Tm} {vs : List Value} {A : Option Addr} (hl : vs.length = ts.length) (hr : ∀ (i : Nat) (e : Tm) (v : Value), ts[i]? = some e → vs[i]? = some v → RepT w (· < B) e v) (hA : Rows w (· < B) A (flatC vs)) : TmAt w B ts A := fun i x hx => by
  have hi := (List.getElem?_eq_some_iff.1 hx).1
  obtain ⟨v, hv⟩ : ∃ v, vs[i]? = some v := ⟨_, List.getElem?_eq_getElem (by omega)⟩
  have hrx := hr i x v hx hv
  have h4 : ∀ y ∈ vs, y.cells.size = 4 := fun y hy => by
    obtain ⟨k, hk, rfl⟩ := List.getElem_of_mem hy
    obtain ⟨z, hz⟩ : ∃ z, ts[k]? = some z := ⟨_, List.getElem?_eq_getElem (by omega)⟩
    exact (hr k z _ hz (List.getElem?_eq_getElem hk)).cells4
  obtain ⟨A1, c1, A2, c2, rfl⟩ := hrx.form
  have hne : flatC vs ≠ [] := fun h0 => by have := flatC_at h4 hv 0 _ rfl; rw [h0] at this; cases this
  obtain ⟨ad, rfl, hb, hc⟩ := hA hne
  exact ⟨ad, A1, A2, c1, c2, rfl, hb, hrx, fun j u hu => by rw [add_of_add]; exact hc _ _ (flatC_at h4 hv j u (by simpa [Value.cells, tmV] using hu))⟩
/-- What is known of a value that is a term. -/
structure RepTV (w : World) (B : Nat) (t : Tm) (A A' : Option Addr) : Prop where
  h60 : t.exprs.length ≤ 1000
  h60' : t.terms.length ≤ 1000
  op : I64 t.op
  name : ∀ d ∈ t.name, d < 256
  nlen : t.name.length ≤ 9223372036854775807
  expr : ExAt w B t.exprs A
  term : TmAt w B t.terms A'
theorem RepB.open {w : World} {B : Nat} {t : Tm} {v : Value} (h : RepB w B t v) : ∃ A c A' c', v = .agg #[.int .i64 t.op, .string (strOf t.name), .slice A t.exprs.length c, .slice A' t.terms.length c'] ∧ RepTV w B t A A' := by
  have h' : RepT w (· < B) t v := h
  cases h' with
  | @mk op nm es ts A A' c c' vs us hl hl' h60 h60' hop hnm hnl hr hr' hA hA' =>
    exact ⟨A, c, A', c', rfl, h60, h60', hop, hnm, hnl, exAt_of hl hr hA, tmAt_of hl' hr' hA'⟩
theorem RepTV.below {w w' : World} {B : Nat} {t : Tm} {A A' : Option Addr} (h : RepTV w B t A A') (hb : Below B w w') : RepTV w' B t A A' := ⟨h.h60, h.h60', h.op, h.name, h.nlen, h.expr.below hb, h.term.below hb⟩
end Go.Proofs.Ytijaldpmpjapiaa

namespace Go.Proofs.Ytijaldpmpjapiaa
open Go.RowKit

def szX (s : Int × Int) : List Ex → Int × Int
  | [] => s
  | e :: r => szX (withS s (szE e)) r
mutual
/-- A size as it is counted. -/
def szT : Tm → Int × Int
  | .mk _ _ es l => szM (szX (1, 1) es) l
def szM (s : Int × Int) : List Tm → Int × Int
  | [] => s
  | t :: r => if 1000 ≤ s.1 then (1000, 1000) else szM (withS s (szT t)) r
end
theorem szT_eq (t : Tm) : szT t = szM (szX (1, 1) t.exprs) t.terms := by cases t; rw [szT]; rfl
theorem szM_cons (s : Int × Int) (e : Tm) (r : List Tm) : szM s (e :: r) = if 1000 ≤ s.1 then (1000, 1000) else szM (withS s (szT e)) r := by rw [szM]
theorem szM_nil (s : Int × Int) : szM s [] = s := by rw [szM]
theorem szX_Sz : ∀ (l : List Ex) (s : Int × Int), Sz s → Sz (szX s l)
  | [], _, h => h
  | e :: r, s, h => szX_Sz r _ (withS_Sz h (szE_Sz e))
mutual
theorem szT_Sz : ∀ t, Sz (szT t)
  | .mk op nm es l => by rw [szT]; exact szM_Sz _ (szX_Sz es _ ⟨by simp, by simp⟩) l
theorem szM_Sz : ∀ (s : Int × Int), Sz s → ∀ l, Sz (szM s l)
  | s, h, [] => by rw [szM]; exact h
  | s, h, e :: r => by
    rw [szM]
    split
    · exact ⟨by simp, by simp⟩
    · exact szM_Sz _ (withS_Sz h (szT_Sz e)) r
end
theorem withS_cnt {s t : Int × Int} {n d n' d' : Nat} (h : Cnt s n d) (k : Cnt t n' d') (h2 : d ≤ n) (h3 : d' ≤ n') : Cnt (withS s t) (n + n') (max d (1 + d')) ∨ (1000 ≤ n + n' ∧ Cnt (withS s t) (n + n') (max d (1 + d'))) := by
  obtain ⟨a, b⟩ := h
  obtain ⟨a', b'⟩ := k
  left
  refine ⟨by unfold withS; simp only; omega, fun h => ?_⟩
  unfold withS
  simp only
  rw [b (by omega), b' (by omega)]
  omega
theorem szX_cnt : ∀ (l : List Ex) (s : Int × Int) (n d : Nat), Cnt s n d → 1 ≤ d → d ≤ n → Cnt (szX s l) (n + nodesL l) (max d (1 + depthL l)) ∧ max d (1 + depthL l) ≤ n + nodesL l
  | [], s, n, d, h, h1, h2 => by
    rw [nodesL, depthL, show max d (1 + 0) = d by omega]
    exact ⟨h, by omega⟩
  | e :: r, s, n, d, h, h1, h2 => by
    rw [nodesL, depthL]
    have he := szE_cnt e
    have hn := Ex.depth_nodes e
    have hp := e.nodes_pos
    have hw := (withS_cnt h he h2 hn).elim id (fun h => h.2)
    have := szX_cnt r _ _ _ hw (by omega) (by omega)
    rw [show n + (e.nodes + nodesL r) = n + e.nodes + nodesL r by omega, show max d (1 + max e.depth (depthL r)) = max (max d (1 + e.depth)) (1 + depthL r) by omega]
    exact this
mutual
theorem szT_cnt : ∀ t, Cnt (szT t) t.nodes t.depth
  | .mk op nm es l => by
    rw [szT, Tm.nodes_mk, Tm.depth_mk]
    have h0 : Cnt (1, 1) 1 1 := ⟨(by show (1 : Int) = min ((1 : Nat) : Int) 1000; omega), fun _ => rfl⟩
    obtain ⟨h1, h2⟩ := szX_cnt es (1, 1) 1 1 h0 (Nat.le_refl _) (Nat.le_refl _)
    have := szM_cnt _ _ _ h1 (by omega) h2 l
    rwa [show max (max 1 (1 + depthL es)) (1 + depthM l) = 1 + max (depthL es) (depthM l) by omega] at this
theorem szM_cnt : ∀ (s : Int × Int) (n d : Nat), Cnt s n d → 1 ≤ d → d ≤ n → ∀ l, Cnt (szM s l) (n + nodesM l) (max d (1 + depthM l))
  | s, n, d, h, h1, h2, [] => by
    rw [szM, nodesM, depthM, show max d (1 + 0) = d by omega]
    exact h
  | s, n, d, h, h1, h2, e :: r => by
    rw [szM, nodesM, depthM]
    have he := szT_cnt e
    have hn := Tm.depth_nodes e
    have hp := e.nodes_pos
    split
    · obtain ⟨a, b⟩ := h
      exact ⟨by simp only; omega, fun h => by omega⟩
    · have hw := (withS_cnt h he h2 hn).elim id (fun h => h.2)
      have := szM_cnt _ _ _ hw (by omega) (by omega) r
      rw [show n + (e.nodes + nodesM r) = n + e.nodes + nodesM r by omega, show max d (1 + max e.depth (depthM r)) = max (max d (1 + e.depth)) (1 + depthM r) by omega]
      exact this
end
theorem zero_api_Term : zeroIs Try.prog 57 = some (some (.agg #[.int .i64 0, .string { data := #[] }, .slice none 0 0, .slice none 0 0])) := by kernel_rfl
theorem sizeTerm_any (N : Nat) : ∀ (t : Tm) (at_ : Nat) (B : Nat) (v : Value) (w : World), t.nodes ≤ N → t.depth + at_ ≤ 900 → RepB w B t v → B ≤ w.heap.size → Calls Try.prog 67 #[v, .int .i64 (at_ : Int)] w fun en w' => en = .returned (.agg #[.int .i64 (szT t).1, .int .i64 (szT t).2]) ∧ Grow w w' := by
  induction N with
  | zero => intro t at_ B v w hN; have := t.nodes_pos; omega
  | succ N ih =>
  intro t at_ B v w hN hdep hrep hB
  obtain ⟨A, c, A', c', rfl, hv⟩ := hrep.open
  have bel := Below.refl w.heap.size w
  have hdp : 0 < t.depth := by rw [t.depth_eq]; omega
  have h60 := hv.h60
  have h60' := hv.h60'
  refine Calls.start 48 Try.func67 rfl rfl rfl ?_
  refine Cd.seq ?_
  refine Cd.region ?_
  refine Seq.box rfl rfl rfl rfl rfl ?_
  intro g2 w1 n2
  have e2 := Nat.le_trans bel.size n2.ge
  replace bel := bel.step n2.below
  have k2 := n2.blk
  refine Seq.alloc rfl (run_zero zero_term_size) rfl rfl rfl ?_
  intro g4 w2 n4
  have e4 := Nat.le_trans bel.size n4.ge
  have l4 := Nat.lt_of_lt_of_le k2.lt n4.ge
  replace bel := bel.step n4.below
  replace k2 := k2.step n4.below
  have k4 := n4.blk
  refine Seq.nil ?_
  refine Post.weak (F' := [(0, _), (1, _), (2, _), (4, _)]) ⟨rfl, rfl, rfl, rfl, trivial⟩ ?_
  refine Post.then_ ?_
  refine Cd.seq ?_
  refine Cd.region ?_
  refine Seq.val (Runs.build rfl rfl (run_build_size _ _ _)) rfl rfl rfl ?_
  refine Seq.alloc rfl (run_zero zero_term_size) rfl rfl rfl ?_
  intro g5 w3 n5
  have e5 := Nat.le_trans bel.size n5.ge
  have l5 := Nat.lt_of_lt_of_le k4.lt n5.ge
  have l5_k2 := Nat.lt_of_lt_of_le k2.lt n5.ge
  replace bel := bel.step n5.below
  replace k2 := k2.step n5.below
  replace k4 := k4.step n5.below
  have k5 := n5.blk
  refine Seq.storeN rfl rfl rfl rfl (m := 2) (by kernel_rfl) rfl (by repeat' first | exact trivial | apply And.intro | rfl | assumption) k5 (by simp [Value.cells]) rfl rfl ?_
  intro w4 pw4
  replace bel := bel.put k5 pw4 e5
  replace k2 := k2.put pw4 (by omega)
  replace k4 := k4.put pw4 (by omega)
  replace k5 := pw4.blk
  refine Seq.nil ?_
  refine Post.weak (F' := [(0, _), (1, _), (2, _), (4, _), (5, _)]) ⟨rfl, rfl, rfl, rfl, rfl, trivial⟩ ?_
  refine Post.then_ ?_
  refine Cd.seq ?_
  refine Cd.seq ?_
  refine Cd.region ?_
  refine Seq.val (Runs.fieldB 2 rfl rfl Try.underlying57 rfl (by kernel_rfl)) rfl rfl rfl ?_
  refine Seq.val (Runs.loadB rfl rfl Try.underlying25 rfl k2 rfl) rfl rfl rfl ?_
  refine Seq.val (Runs.len rfl rfl Try.underlying25) rfl rfl rfl ?_
  refine Seq.val (Runs.move rfl rfl) rfl rfl rfl ?_
  refine Seq.nil ?_
  refine Post.weak (F' := [(0, _), (1, _), (2, _), (4, _), (5, _), (12, _), (13, _), (14, _)]) ⟨rfl, rfl, rfl, rfl, rfl, rfl, rfl, rfl, trivial⟩ ?_
  refine Post.then_ ?_
  refine Cd.block ?_
  refine Cd.loop (σ := Nat × (Int × Int)) (fun s => [(1, .int .i64 (at_ : Int)), (2, .pointer (some ⟨g2, 0, none⟩)), (4, .pointer (some ⟨g4, 0, none⟩)), (5, .pointer (some ⟨g5, 0, none⟩)), (12, .slice A t.exprs.length c), (13, .int .i64 (t.exprs.length : Int)), (14, .int .i64 (s.1 : Int))])
    (fun s wr => s.1 ≤ t.exprs.length ∧ Sz s.2 ∧ szX s.2 (t.exprs.drop s.1) = szX (1, 1) t.exprs ∧ Below w.heap.size w wr ∧ Blk wr g2 57 #[.int .i64 t.op, .string (strOf t.name), .slice A t.exprs.length c, .slice A' t.terms.length c'] ∧ Blk wr g4 103 #[.int .i64 0, .int .i64 0] ∧ Blk wr g5 103 #[.int .i64 s.2.1, .int .i64 s.2.2]) (fun s => t.exprs.length - s.1) (0, (1, 1)) ⟨Nat.zero_le _, ⟨by simp, by simp⟩, rfl, bel, k2, k4, k5⟩ ⟨rfl, rfl, rfl, rfl, rfl, rfl, rfl, trivial⟩ ?_
  clear bel k2 k4 k5
  rintro ⟨k, s⟩ wr ⟨hk, hs, hsz, bel, k2, k4, k5⟩
  simp only at hk hs hsz k5
  show Cd _ _ _ _ [(1, .int .i64 (at_ : Int)), (2, .pointer (some ⟨g2, 0, none⟩)), (4, .pointer (some ⟨g4, 0, none⟩)), (5, .pointer (some ⟨g5, 0, none⟩)), (12, .slice A t.exprs.length c), (13, .int .i64 (t.exprs.length : Int)), (14, .int .i64 (k : Int))] _
  refine Cd.seq ?_
  refine Cd.region ?_
  refine Seq.val (Runs.lss rfl rfl rfl) rfl rfl rfl ?_
  refine Seq.nil ?_
  refine Post.weak (F' := [(1, _), (2, _), (4, _), (5, _), (12, _), (13, _), (14, _), (15, _)]) ⟨rfl, rfl, rfl, rfl, rfl, rfl, rfl, rfl, trivial⟩ ?_
  refine Post.then_ ?_
  refine Cd.seq ?_
  refine Cd.condD rfl (fun hc => ?_) (fun hc => ?_)
  · obtain ⟨x, hx⟩ : ∃ x, t.exprs[k]? = some x := ⟨_, List.getElem?_eq_getElem (show k < t.exprs.length by omega)⟩
    obtain ⟨ad, Ax, cx, rfl, hbl, hrx, hc⟩ := hv.expr k x hx
    have hxm := List.mem_of_getElem? hx
    have hxd := Tm.expr_depth hxm
    have hc := fun j u hj => ((bel.mono hB).cell (p := (ad.add (k * 4)).add j) (by rw [block_of_add, block_of_add]; exact hbl)).trans (hc j u hj)
    have hdrop : t.exprs.drop k = x :: t.exprs.drop (k + 1) := by
      rw [List.drop_eq_getElem_cons (show k < t.exprs.length by omega)]
      congr 1
      obtain ⟨_, he⟩ := List.getElem?_eq_some_iff.1 hx
      exact he
    rw [hdrop, szX] at hsz
    have hrec := fun W (hb : Below w.heap.size w W) => sizeExpr_any x.nodes x (at_ + 1) B _ W (Nat.le_refl _) (by omega) (hrx.below (hb.mono hB)) (Nat.le_trans hB hb.size)
    have hxs := szE_Sz x
    have hws := withS_Sz hs hxs
    refine Cd.skip ?_
    refine Post.then_ ?_
    refine Cd.seq ?_
    refine Cd.block ?_
    refine Cd.seq ?_
    refine Cd.region ?_
    refine Seq.val (Runs.indexN rfl rfl rfl Try.underlying25 (s := 4) (by kernel_rfl) (j := k) rfl (by omega)) rfl rfl rfl ?_
    refine Seq.val (Runs.loadF (ps := [.int .i64 x.op, .int .i64 x.n, .string (strOf x.name), .slice Ax x.args.length cx]) rfl rfl Try.underlying35 rfl (m := 4) (by kernel_rfl) rfl hc) rfl rfl rfl ?_
    refine Seq.alloc rfl (run_zero zero_api_Expr) rfl rfl rfl ?_
    intro g7 w5 n7
    have e7 := Nat.le_trans bel.size n7.ge
    have l7 := Nat.lt_of_lt_of_le k5.lt n7.ge
    have l7_k2 := Nat.lt_of_lt_of_le k2.lt n7.ge
    have l7_k4 := Nat.lt_of_lt_of_le k4.lt n7.ge
    replace bel := bel.step n7.below
    replace k2 := k2.step n7.below
    replace k4 := k4.step n7.below
    replace k5 := k5.step n7.below
    have k7 := n7.blk
    refine Seq.storeN rfl rfl rfl rfl (m := 4) (by kernel_rfl) rfl (by repeat' first | exact trivial | apply And.intro | rfl | assumption) k7 (by simp [Value.cells]) rfl rfl ?_
    intro w6 pw6
    replace bel := bel.put k7 pw6 e7
    replace k2 := k2.put pw6 (by omega)
    replace k4 := k4.put pw6 (by omega)
    replace k5 := k5.put pw6 (by omega)
    replace k7 := pw6.blk
    refine Seq.nil ?_
    refine Post.weak (F' := [(1, _), (2, _), (4, _), (5, _), (7, _), (12, _), (13, _), (14, _), (15, _)]) ⟨rfl, rfl, rfl, rfl, rfl, rfl, rfl, rfl, rfl, trivial⟩ ?_
    refine Post.then_ ?_
    refine Cd.draw 6 (by kernel_rfl) [] (.inl rfl) rfl Grow Grow.refl (fun _ _ _ => Grow.trans) ?_
    intro w7 hw7 zw7
    replace bel := bel.step hw7
    replace k2 := k2.step hw7
    replace k4 := k4.step hw7
    replace k5 := k5.step hw7
    replace k7 := k7.step hw7
    have zbel := bel.size
    have zlt := k7.lt
    refine Dr.val Grow.refl rfl (fun w hG => Runs.loadW rfl rfl Try.underlying103 rfl (k5.step hG) (m := 2) (by kernel_rfl) rfl) rfl ?_
    refine Dr.val Grow.refl rfl (fun w hG => Runs.loadW rfl rfl Try.underlying35 rfl (k7.step hG) (m := 4) (by kernel_rfl) rfl) rfl ?_
    refine Dr.val Grow.refl rfl (fun w hG => Runs.move rfl rfl) rfl ?_
    refine Dr.val Grow.refl rfl (fun w hG => Runs.addI rfl rfl rfl (by omega) (by omega)) rfl ?_
    refine Dr.callV rfl (fun w => Enters.func rfl rfl rfl (run_enter Try.func75 (by kernel_rfl) rfl)) rfl (fun w hG => hrec w (bel.step hG)) ?_
    refine Dr.callV rfl (fun w => Enters.func rfl rfl rfl (run_enter Try.func116 (by kernel_rfl) rfl)) rfl (fun w hG => with_any s (szE x) w hs.1 hs.2 hxs.1 hxs.2) ?_
    refine Dr.nil ?_
    refine FinX.done (F' := [(1, _), (2, _), (4, _), (5, _), (7, _), (12, _), (13, _), (14, _), (15, _), (23, _)]) rfl ⟨rfl, rfl, rfl, rfl, rfl, rfl, rfl, rfl, rfl, rfl, trivial⟩ ?_
    intro w8 hw8 fw8
    replace bel := bel.step hw8
    replace k2 := k2.step hw8
    replace k4 := k4.step hw8
    replace k5 := k5.step hw8
    replace k7 := k7.step hw8
    refine Seq.storeN rfl rfl rfl rfl (m := 2) (by kernel_rfl) rfl (by repeat' first | exact trivial | apply And.intro | rfl | assumption) k5 (by simp [Value.cells]) rfl rfl ?_
    intro w9 pw9
    replace bel := bel.put k5 pw9 e5
    replace k2 := k2.put pw9 (by omega)
    replace k4 := k4.put pw9 (by omega)
    replace k5 := pw9.blk
    refine Seq.nil ?_
    refine Post.weak (F' := [(1, _), (2, _), (4, _), (5, _), (7, _), (12, _), (13, _), (14, _), (15, _)]) ⟨rfl, rfl, rfl, rfl, rfl, rfl, rfl, rfl, rfl, trivial⟩ ?_
    refine Post.block_normal ?_
    refine Post.then_ ?_
    refine Cd.region ?_
    refine Seq.val (Runs.addI rfl rfl rfl (by omega) (by omega)) rfl rfl rfl ?_
    refine Seq.val (Runs.move rfl rfl) rfl rfl rfl ?_
    refine Seq.nil ?_
    refine Post.weak (F' := [(1, _), (2, _), (4, _), (5, _), (7, _), (12, _), (13, _), (14, _), (15, _)]) ⟨rfl, rfl, rfl, rfl, rfl, rfl, rfl, rfl, rfl, trivial⟩ ?_
    exact Post.round (k + 1, withS s (szE x)) ⟨rfl, rfl, rfl, rfl, rfl, rfl, rfl, trivial⟩ ⟨by simp only; omega, hws, hsz, bel, k2, k4, k5⟩ (by simp only; omega)
  · obtain rfl : k = t.exprs.length := by omega
    rw [List.drop_of_length_le (Nat.le_refl _), szX] at hsz
    have hT := szT_eq t
    rw [← hsz] at hT
    refine Cd.exit ?_
    refine Post.then_exit ?_
    refine Post.round_exit ?_
    refine Post.block_exit ?_
    refine Post.then_ ?_
    refine Cd.seq ?_
    refine Cd.seq ?_
    refine Cd.region ?_
    refine Seq.val (Runs.fieldB 3 rfl rfl Try.underlying57 rfl (by kernel_rfl)) rfl rfl rfl ?_
    refine Seq.val (Runs.loadB rfl rfl Try.underlying27 rfl k2 rfl) rfl rfl rfl ?_
    refine Seq.val (Runs.len rfl rfl Try.underlying27) rfl rfl rfl ?_
    refine Seq.val (Runs.move rfl rfl) rfl rfl rfl ?_
    refine Seq.nil ?_
    refine Post.weak (F' := [(1, _), (2, _), (4, _), (5, _), (12, _), (13, _), (14, _), (15, _), (26, _), (27, _), (28, _)]) ⟨rfl, rfl, rfl, rfl, rfl, rfl, rfl, rfl, rfl, rfl, rfl, trivial⟩ ?_
    refine Post.then_ ?_
    refine Cd.block ?_
    refine Cd.loop (σ := Nat × (Int × Int)) (fun s => [(1, .int .i64 (at_ : Int)), (4, .pointer (some ⟨g4, 0, none⟩)), (5, .pointer (some ⟨g5, 0, none⟩)), (26, .slice A' t.terms.length c'), (27, .int .i64 (t.terms.length : Int)), (28, .int .i64 (s.1 : Int))])
      (fun s wr => s.1 ≤ t.terms.length ∧ Sz s.2 ∧ szM s.2 (t.terms.drop s.1) = szT t ∧ Below w.heap.size w wr ∧ Blk wr g4 103 #[.int .i64 0, .int .i64 0] ∧ Blk wr g5 103 #[.int .i64 s.2.1, .int .i64 s.2.2]) (fun s => t.terms.length - s.1) (0, s) ⟨Nat.zero_le _, hs, hT.symm, bel, k4, k5⟩ ⟨rfl, rfl, rfl, rfl, rfl, rfl, trivial⟩ ?_
    clear bel k2 k4 k5
    clear hs hsz hT
    rintro ⟨k, s⟩ wr ⟨hk, hs, hsz, bel, k4, k5⟩
    simp only at hk hs hsz k5
    show Cd _ _ _ _ [(1, .int .i64 (at_ : Int)), (4, .pointer (some ⟨g4, 0, none⟩)), (5, .pointer (some ⟨g5, 0, none⟩)), (26, .slice A' t.terms.length c'), (27, .int .i64 (t.terms.length : Int)), (28, .int .i64 (k : Int))] _
    refine Cd.seq ?_
    refine Cd.region ?_
    refine Seq.val (Runs.lss rfl rfl rfl) rfl rfl rfl ?_
    refine Seq.nil ?_
    refine Post.weak (F' := [(1, _), (4, _), (5, _), (26, _), (27, _), (28, _), (29, _)]) ⟨rfl, rfl, rfl, rfl, rfl, rfl, rfl, trivial⟩ ?_
    refine Post.then_ ?_
    refine Cd.seq ?_
    refine Cd.condD rfl (fun hc => ?_) (fun hc => ?_)
    · obtain ⟨x, hx⟩ : ∃ x, t.terms[k]? = some x := ⟨_, List.getElem?_eq_getElem (show k < t.terms.length by omega)⟩
      obtain ⟨ad, A1, A2, c1, c2, rfl, hbl, hrx, hc⟩ := hv.term k x hx
      have hxm := List.mem_of_getElem? hx
      have hxd := Tm.term_depth hxm
      have hxn := Tm.term_nodes hxm
      have hc := fun j u hj => ((bel.mono hB).cell (p := (ad.add (k * 4)).add j) (by rw [block_of_add, block_of_add]; exact hbl)).trans (hc j u hj)
      have hdrop : t.terms.drop k = x :: t.terms.drop (k + 1) := by
        rw [List.drop_eq_getElem_cons (show k < t.terms.length by omega)]
        congr 1
        obtain ⟨_, he⟩ := List.getElem?_eq_some_iff.1 hx
        exact he
      rw [hdrop, szM_cons] at hsz
      refine Cd.skip ?_
      refine Post.then_ ?_
      refine Cd.seq ?_
      refine Cd.block ?_
      refine Cd.seq ?_
      refine Cd.region ?_
      refine Seq.val (Runs.indexN rfl rfl rfl Try.underlying27 (s := 4) (by kernel_rfl) (j := k) rfl (by omega)) rfl rfl rfl ?_
      refine Seq.val (Runs.loadF (ps := [.int .i64 x.op, .string (strOf x.name), .slice A1 x.exprs.length c1, .slice A2 x.terms.length c2]) rfl rfl Try.underlying57 rfl (m := 4) (by kernel_rfl) rfl hc) rfl rfl rfl ?_
      refine Seq.alloc rfl (run_zero zero_api_Term) rfl rfl rfl ?_
      intro g9 w5 n9
      have e9 := Nat.le_trans bel.size n9.ge
      have l9 := Nat.lt_of_lt_of_le k5.lt n9.ge
      have l9_k4 := Nat.lt_of_lt_of_le k4.lt n9.ge
      replace bel := bel.step n9.below
      replace k4 := k4.step n9.below
      replace k5 := k5.step n9.below
      have k9 := n9.blk
      refine Seq.storeN rfl rfl rfl rfl (m := 4) (by kernel_rfl) rfl (by repeat' first | exact trivial | apply And.intro | rfl | assumption) k9 (by simp [Value.cells]) rfl rfl ?_
      intro w6 pw6
      replace bel := bel.put k9 pw6 e9
      replace k4 := k4.put pw6 (by omega)
      replace k5 := k5.put pw6 (by omega)
      replace k9 := pw6.blk
      refine Seq.nil ?_
      refine Post.weak (F' := [(1, _), (4, _), (5, _), (9, _), (26, _), (27, _), (28, _), (29, _)]) ⟨rfl, rfl, rfl, rfl, rfl, rfl, rfl, rfl, trivial⟩ ?_
      refine Post.then_ ?_
      refine Cd.seq ?_
      refine Cd.seq ?_
      refine Cd.region ?_
      refine Seq.val (Runs.move rfl rfl) rfl rfl rfl ?_
      refine Seq.val (Runs.geq rfl rfl rfl) rfl rfl rfl ?_
      refine Seq.val (Runs.move rfl rfl) rfl rfl rfl ?_
      refine SeqC.start ?_
      refine SeqC.open rfl rfl rfl rfl rfl rfl rfl (fun hcx => Runs.fieldB 0 rfl rfl Try.underlying103 rfl (by kernel_rfl)) ?_
      refine SeqC.next rfl rfl rfl rfl rfl rfl rfl (fun hcx => Runs.loadB rfl rfl Try.underlying3 rfl k5 rfl) ?_
      refine SeqC.next rfl rfl rfl rfl rfl rfl rfl (fun hcx => Runs.geq rfl rfl rfl) ?_
      refine SeqC.or rfl rfl rfl rfl rfl rfl rfl ?_
      refine Seq.nil ?_
      refine Post.weak (F' := [(1, _), (4, _), (5, _), (9, _), (26, _), (27, _), (28, _), (29, _), (38, _)]) ⟨rfl, rfl, rfl, rfl, rfl, rfl, rfl, rfl, rfl, trivial⟩ ?_
      refine Post.then_ ?_
      refine Cd.cond rfl (fun h => ?_) (fun h => ?_)
      · simp at h
        rw [if_pos (by omega)] at hsz
        refine Cd.seq ?_
        refine Cd.region ?_
        refine Seq.val (Runs.build rfl rfl (run_build_size _ _ _)) rfl rfl rfl ?_
        refine Seq.storeN rfl rfl rfl rfl (m := 2) (by kernel_rfl) rfl (by repeat' first | exact trivial | apply And.intro | rfl | assumption) k4 (by simp [Value.cells]) rfl rfl ?_
        intro w7 pw7
        replace bel := bel.put k4 pw7 e4
        replace k5 := k5.put pw7 (by omega)
        replace k9 := k9.put pw7 (by omega)
        replace k4 := pw7.blk
        refine Seq.nil ?_
        refine Post.weak (F' := [(1, _), (4, _), (5, _), (9, _), (26, _), (27, _), (28, _), (29, _), (38, _)]) ⟨rfl, rfl, rfl, rfl, rfl, rfl, rfl, rfl, rfl, trivial⟩ ?_
        refine Post.then_ ?_
        refine Cd.ret ?_
        refine Post.then_ret ?_
        refine Post.block_ret ?_
        refine Post.then_ret ?_
        refine Post.round_ret ?_
        refine Post.block_ret ?_
        refine Post.then_ret ?_
        refine Post.endC rfl rfl k4 Try.underlying103 rfl (m := 2) (by kernel_rfl) rfl (.inl rfl) ?_
        rw [← hsz]
        exact ⟨rfl, bel⟩
      · simp at h
        rw [if_neg (by omega)] at hsz
        have hrec := fun W (hb : Below w.heap.size w W) => ih x (at_ + 1) B _ W (by omega) (by omega) (hrx.below (hb.mono hB)) (Nat.le_trans hB hb.size)
        have hxs := szT_Sz x
        have hws := withS_Sz hs hxs
        refine Cd.skip ?_
        refine Post.then_ ?_
        refine Cd.draw 6 (by kernel_rfl) [] (.inl rfl) rfl Grow Grow.refl (fun _ _ _ => Grow.trans) ?_
        intro w7 hw7 zw7
        replace bel := bel.step hw7
        replace k4 := k4.step hw7
        replace k5 := k5.step hw7
        replace k9 := k9.step hw7
        have zbel := bel.size
        have zlt := k9.lt
        refine Dr.val Grow.refl rfl (fun w hG => Runs.loadW rfl rfl Try.underlying103 rfl (k5.step hG) (m := 2) (by kernel_rfl) rfl) rfl ?_
        refine Dr.val Grow.refl rfl (fun w hG => Runs.loadW rfl rfl Try.underlying57 rfl (k9.step hG) (m := 4) (by kernel_rfl) rfl) rfl ?_
        refine Dr.val Grow.refl rfl (fun w hG => Runs.move rfl rfl) rfl ?_
        refine Dr.val Grow.refl rfl (fun w hG => Runs.addI rfl rfl rfl (by omega) (by omega)) rfl ?_
        refine Dr.callV rfl (fun w => Enters.func rfl rfl rfl (run_enter Try.func67 (by kernel_rfl) rfl)) rfl (fun w hG => hrec w (bel.step hG)) ?_
        refine Dr.callV rfl (fun w => Enters.func rfl rfl rfl (run_enter Try.func116 (by kernel_rfl) rfl)) rfl (fun w hG => with_any s (szT x) w hs.1 hs.2 hxs.1 hxs.2) ?_
        refine Dr.nil ?_
        refine FinX.done (F' := [(1, _), (4, _), (5, _), (9, _), (26, _), (27, _), (28, _), (29, _), (38, _), (45, _)]) rfl ⟨rfl, rfl, rfl, rfl, rfl, rfl, rfl, rfl, rfl, rfl, trivial⟩ ?_
        intro w8 hw8 fw8
        replace bel := bel.step hw8
        replace k4 := k4.step hw8
        replace k5 := k5.step hw8
        replace k9 := k9.step hw8
        refine Seq.storeN rfl rfl rfl rfl (m := 2) (by kernel_rfl) rfl (by repeat' first | exact trivial | apply And.intro | rfl | assumption) k5 (by simp [Value.cells]) rfl rfl ?_
        intro w9 pw9
        replace bel := bel.put k5 pw9 e5
        replace k4 := k4.put pw9 (by omega)
        replace k5 := pw9.blk
        refine Seq.nil ?_
        refine Post.weak (F' := [(1, _), (4, _), (5, _), (9, _), (26, _), (27, _), (28, _), (29, _), (38, _)]) ⟨rfl, rfl, rfl, rfl, rfl, rfl, rfl, rfl, rfl, trivial⟩ ?_
        refine Post.block_normal ?_
        refine Post.then_ ?_
        refine Cd.region ?_
        refine Seq.val (Runs.addI rfl rfl rfl (by omega) (by omega)) rfl rfl rfl ?_
        refine Seq.val (Runs.move rfl rfl) rfl rfl rfl ?_
        refine Seq.nil ?_
        refine Post.weak (F' := [(1, _), (4, _), (5, _), (9, _), (26, _), (27, _), (28, _), (29, _), (38, _)]) ⟨rfl, rfl, rfl, rfl, rfl, rfl, rfl, rfl, rfl, trivial⟩ ?_
        exact Post.round (k + 1, withS s (szT x)) ⟨rfl, rfl, rfl, rfl, rfl, rfl, trivial⟩ ⟨by simp only; omega, hws, hsz, bel, k4, k5⟩ (by simp only; omega)
    · obtain rfl : k = t.terms.length := by omega
      rw [List.drop_of_length_le (Nat.le_refl _), szM_nil] at hsz
      refine Cd.exit ?_
      refine Post.then_exit ?_
      refine Post.round_exit ?_
      refine Post.block_exit ?_
      refine Post.then_ ?_
      refine Cd.seq ?_
      refine Cd.region ?_
      refine Seq.val (Runs.loadW rfl rfl Try.underlying103 rfl k5 (m := 2) (by kernel_rfl) rfl) rfl rfl rfl ?_
      refine Seq.storeN rfl rfl rfl rfl (m := 2) (by kernel_rfl) rfl (by repeat' first | exact trivial | apply And.intro | rfl | assumption) k4 (by simp [Value.cells]) rfl rfl ?_
      intro w5 pw5
      replace bel := bel.put k4 pw5 e4
      replace k5 := k5.put pw5 (by omega)
      replace k4 := pw5.blk
      refine Seq.nil ?_
      refine Post.weak (F' := [(1, _), (4, _), (5, _), (26, _), (27, _), (28, _), (29, _)]) ⟨rfl, rfl, rfl, rfl, rfl, rfl, rfl, trivial⟩ ?_
      refine Post.then_ ?_
      refine Cd.ret ?_
      refine Post.endC rfl rfl k4 Try.underlying103 rfl (m := 2) (by kernel_rfl) rfl (.inl rfl) ?_
      rw [← hsz]
      exact ⟨rfl, bel⟩
end Go.Proofs.Ytijaldpmpjapiaa

namespace Go.Proofs.Ytijaldpmpjapiaa
open Go.RowKit

theorem indexT_any (g : Nat) (cp : List Value) (p : Tm → Bool) (B : Nat) (A : Option Addr) (c : Nat) (l : List Tm) (w : World) (h60 : l.length ≤ 1000) (hv : TmAt w B l A) (hB : B ≤ w.heap.size)
    (eg : ∀ args w, (callFunc g args).run Try.prog w = .ok (.enter g args) w) (hp : ∀ x ∈ l, ∀ v W, Below w.heap.size w W → RepB W B x v → Calls Try.prog g ([] ++ [v] ++ cp).toArray W fun en w' => en = .returned (.bool (p x)) ∧ Grow W w') :
    Calls Try.prog 154 #[.slice A l.length c, .func (.func g) #[] cp.toArray] w fun en w' => en = .returned (.int .i64 (idxP p l)) ∧ Grow w w' := by
  have bel := Below.refl w.heap.size w
  obtain ⟨n, hn⟩ : ∃ n, n = l.length := ⟨_, rfl⟩
  rw [← hn] at h60 ⊢
  refine Calls.start 19 Try.func154 rfl rfl rfl ?_
  refine Cd.seq ?_
  refine Cd.region ?_
  refine Seq.val (Runs.assign rfl rfl) rfl rfl rfl ?_
  refine Seq.nil ?_
  refine Post.weak (F' := [(0, _), (1, _), (4, _)]) ⟨rfl, rfl, rfl, trivial⟩ ?_
  refine Post.then_ ?_
  refine Cd.seq ?_
  refine Cd.seq ?_
  refine Cd.region ?_
  refine Seq.val (Runs.move rfl rfl) rfl rfl rfl ?_
  refine Seq.val (Runs.len rfl rfl Try.underlying27) rfl rfl rfl ?_
  refine Seq.val (Runs.move rfl rfl) rfl rfl rfl ?_
  refine Seq.nil ?_
  refine Post.weak (F' := [(0, _), (1, _), (4, _), (7, _), (8, _)]) ⟨rfl, rfl, rfl, rfl, rfl, trivial⟩ ?_
  refine Post.then_ ?_
  refine Cd.block ?_
  refine Cd.loop (σ := Nat) (fun k => [(0, .slice A n c), (1, .func (.func g) #[] cp.toArray), (7, .int .i64 (n : Int)), (8, .int .i64 (k : Int))])
    (fun k wr => k ≤ n ∧ (∀ y ∈ l.take k, p y = false) ∧ Below w.heap.size w wr) (fun k => n - k) 0 ⟨Nat.zero_le _, by simp, bel⟩ ⟨rfl, rfl, rfl, rfl, trivial⟩ ?_
  clear bel
  rintro k wr ⟨hk, hno, bel⟩
  refine Cd.seq ?_
  refine Cd.region ?_
  refine Seq.val (Runs.lss rfl rfl rfl) rfl rfl rfl ?_
  refine Seq.nil ?_
  refine Post.weak (F' := [(0, _), (1, _), (7, _), (8, _), (9, _)]) ⟨rfl, rfl, rfl, rfl, rfl, trivial⟩ ?_
  refine Post.then_ ?_
  refine Cd.seq ?_
  refine Cd.condD rfl (fun hc => ?_) (fun hc => ?_)
  · obtain ⟨x, hx⟩ : ∃ x, l[k]? = some x := ⟨_, List.getElem?_eq_getElem (show k < l.length by omega)⟩
    obtain ⟨ad, A1, A2, c1, c2, rfl, hbl, hrx, hc⟩ := hv k x hx
    have hc := fun j u hj => ((bel.mono hB).cell (p := (ad.add (k * 4)).add j) (by rw [block_of_add, block_of_add]; exact hbl)).trans (hc j u hj)
    have htk : l.take (k + 1) = l.take k ++ [x] := by rw [List.take_add_one, hx]; rfl
    refine Cd.skip ?_
    refine Post.then_ ?_
    refine Cd.seq ?_
    refine Cd.block ?_
    refine Cd.seq ?_
    refine Cd.region ?_
    refine Seq.val (Runs.move rfl rfl) rfl rfl rfl ?_
    refine Seq.val (Runs.assign rfl rfl) rfl rfl rfl ?_
    refine Seq.nil ?_
    refine Post.weak (F' := [(0, _), (1, _), (5, _), (7, _), (8, _), (9, _)]) ⟨rfl, rfl, rfl, rfl, rfl, rfl, trivial⟩ ?_
    refine Post.then_ ?_
    refine Cd.seq ?_
    refine Cd.region ?_
    refine Seq.val (Runs.move rfl rfl) rfl rfl rfl ?_
    refine Seq.val (Runs.move rfl rfl) rfl rfl rfl ?_
    refine Seq.val (Runs.move rfl rfl) rfl rfl rfl ?_
    refine Seq.val (Runs.indexN rfl rfl rfl Try.underlying27 (s := 4) (by kernel_rfl) (j := k) rfl (by omega)) rfl rfl rfl ?_
    refine Seq.val (Runs.loadF (ps := [.int .i64 x.op, .string (strOf x.name), .slice A1 x.exprs.length c1, .slice A2 x.terms.length c2]) rfl rfl Try.underlying57 rfl (m := 4) (by kernel_rfl) rfl hc) rfl rfl rfl ?_
    refine Seq.call (Enters.value (first := []) (cap := cp) rfl rfl rfl eg) rfl rfl rfl (hp x (List.mem_of_getElem? hx) _ _ bel (hrx.below (bel.mono hB))) ?_
    rintro en w5 ⟨rfl, hb5⟩
    refine ⟨_, rfl, ?_⟩
    replace bel := bel.step hb5
    refine Seq.nil ?_
    refine Post.weak (F' := [(0, _), (1, _), (5, _), (7, _), (8, _), (9, _), (16, _)]) ⟨rfl, rfl, rfl, rfl, rfl, rfl, rfl, trivial⟩ ?_
    refine Post.then_ ?_
    refine Cd.cond rfl (fun h => ?_) (fun h => ?_)
    · skip
      refine Cd.seq ?_
      refine Cd.region ?_
      refine Seq.val (Runs.move rfl rfl) rfl rfl rfl ?_
      refine Seq.val (Runs.assign rfl rfl) rfl rfl rfl ?_
      refine Seq.nil ?_
      refine Post.weak (F' := [(0, _), (1, _), (4, _), (5, _), (7, _), (8, _), (9, _), (16, _)]) ⟨rfl, rfl, rfl, rfl, rfl, rfl, rfl, rfl, trivial⟩ ?_
      refine Post.then_ ?_
      refine Cd.ret ?_
      refine Post.block_ret ?_
      refine Post.then_ret ?_
      refine Post.round_ret ?_
      refine Post.block_ret ?_
      refine Post.then_ret ?_
      refine Post.end1 rfl rfl (.inl rfl) ?_
      exact ⟨ret1 (int_eq (idxP_some hx h hno).symm), bel⟩
    · skip
      refine Cd.skip ?_
      refine Post.block_normal ?_
      refine Post.then_ ?_
      refine Cd.region ?_
      refine Seq.val (Runs.addI rfl rfl rfl (by omega) (by omega)) rfl rfl rfl ?_
      refine Seq.val (Runs.move rfl rfl) rfl rfl rfl ?_
      refine Seq.nil ?_
      refine Post.weak (F' := [(0, _), (1, _), (5, _), (7, _), (8, _), (9, _), (16, _)]) ⟨rfl, rfl, rfl, rfl, rfl, rfl, rfl, trivial⟩ ?_
      refine Post.round (k + 1) ⟨rfl, rfl, rfl, rfl, trivial⟩ ⟨by omega, fun y hy => ?_, bel⟩ (by omega)
      rw [htk] at hy
      rcases List.mem_append.1 hy with hy | hy
      · exact hno y hy
      · simp at hy; subst hy; exact h
  · obtain rfl : k = n := by omega
    rw [List.take_of_length_le (by omega)] at hno
    refine Cd.exit ?_
    refine Post.then_exit ?_
    refine Post.round_exit ?_
    refine Post.block_exit ?_
    refine Post.then_ ?_
    refine Cd.seq ?_
    refine Cd.region ?_
    refine Seq.val (Runs.assign rfl rfl) rfl rfl rfl ?_
    refine Seq.nil ?_
    refine Post.weak (F' := [(0, _), (1, _), (4, _), (7, _), (8, _), (9, _)]) ⟨rfl, rfl, rfl, rfl, rfl, rfl, trivial⟩ ?_
    refine Post.then_ ?_
    refine Cd.ret ?_
    refine Post.end1 rfl rfl (.inl rfl) ?_
    exact ⟨ret1 (int_eq (idxP_none hno).symm), bel⟩
theorem containsT_any (g : Nat) (cp : List Value) (p : Tm → Bool) (B : Nat) (A : Option Addr) (c : Nat) (l : List Tm) (w : World) (h60 : l.length ≤ 1000) (hv : TmAt w B l A) (hB : B ≤ w.heap.size)
    (eg : ∀ args w, (callFunc g args).run Try.prog w = .ok (.enter g args) w) (hp : ∀ x ∈ l, ∀ v W, Below w.heap.size w W → RepB W B x v → Calls Try.prog g ([] ++ [v] ++ cp).toArray W fun en w' => en = .returned (.bool (p x)) ∧ Grow W w') :
    Calls Try.prog 121 #[.slice A l.length c, .func (.func g) #[] cp.toArray] w fun en w' => en = .returned (.bool (l.any p)) ∧ Grow w w' := by
  have bel := Below.refl w.heap.size w
  have hc := fun W (hb : Below w.heap.size w W) => indexT_any g cp p B A c l W h60 (hv.below (hb.mono hB)) (Nat.le_trans hB hb.size) eg (fun x hx v W2 hb2 hr => hp x hx v W2 (hb.trans (hb2.mono hb.size)) hr)
  have hany := idxP_any p l
  obtain ⟨n, hn⟩ : ∃ n, n = l.length := ⟨_, rfl⟩
  rw [← hn] at hc ⊢
  refine Calls.start 9 Try.func121 rfl rfl rfl ?_
  refine Cd.seq ?_
  refine Cd.region ?_
  refine Seq.val (Runs.assign rfl rfl) rfl rfl rfl ?_
  refine Seq.nil ?_
  refine Post.weak (F' := [(0, _), (1, _), (4, _)]) ⟨rfl, rfl, rfl, trivial⟩ ?_
  refine Post.then_ ?_
  refine Cd.seq ?_
  refine Cd.region ?_
  refine Seq.val (Runs.move rfl rfl) rfl rfl rfl ?_
  refine Seq.val (Runs.move rfl rfl) rfl rfl rfl ?_
  refine Seq.call (Enters.func rfl rfl rfl (run_enter Try.func154 (by kernel_rfl) rfl)) rfl rfl rfl (hc _ bel) ?_
  rintro en w5 ⟨rfl, hb5⟩
  refine ⟨_, rfl, ?_⟩
  replace bel := bel.step hb5
  refine Seq.val (Runs.geq rfl rfl rfl) rfl rfl rfl ?_
  refine Seq.val (Runs.assign rfl rfl) rfl rfl rfl ?_
  refine Seq.nil ?_
  refine Post.weak (F' := [(0, _), (1, _), (4, _)]) ⟨rfl, rfl, rfl, trivial⟩ ?_
  refine Post.then_ ?_
  refine Cd.ret ?_
  refine Post.end1 rfl rfl (.inl rfl) ?_
  exact ⟨ret1 (bool_eq hany), bel⟩
/-- How many expressions and terms a term has. -/
def arT (op : Int) : Int × Int := if op = 1 ∨ op = 2 then (0, 0) else if op = 3 then (0, 1) else if op = 4 ∨ op = 5 then (0, 2) else if op = 6 ∨ op = 7 ∨ op = 8 ∨ op = 9 then (1, 1) else (-1, -1)
theorem arities_any (op : Int) (w : World) : Calls Try.prog 117 #[.int .i64 op] w fun e w' => e = .returned (.tuple #[.int .i64 (arT op).1, .int .i64 (arT op).2]) ∧ Grow w w' := by
  have bel := Below.refl w.heap.size w
  refine Calls.start 18 Try.func117 rfl rfl rfl ?_
  by_cases h1 : op = 1
  · subst h1
    refine Cd.seq ?_
    refine Cd.region ?_
    refine Seq.val (Runs.assign rfl rfl) rfl rfl rfl ?_
    refine Seq.val (Runs.assign rfl rfl) rfl rfl rfl ?_
    refine Seq.nil ?_
    refine Post.weak (F' := [(0, _), (2, _), (3, _)]) ⟨rfl, rfl, rfl, trivial⟩ ?_
    refine Post.then_ ?_
    refine Cd.seq ?_
    refine Cd.seq ?_
    refine Cd.region ?_
    refine Seq.val (Runs.move rfl rfl) rfl rfl rfl ?_
    refine Seq.nil ?_
    refine Post.weak (F' := [(0, _), (2, _), (3, _), (4, _)]) ⟨rfl, rfl, rfl, rfl, trivial⟩ ?_
    refine Post.then_ ?_
    refine Cd.block ?_
    refine Cd.seq ?_
    refine Cd.seq ?_
    refine Cd.region ?_
    refine Seq.val (Runs.eqlI rfl rfl rfl) rfl rfl rfl ?_
    refine Seq.val (Runs.assign rfl rfl) rfl rfl rfl ?_
    refine Seq.nil ?_
    refine Post.weak (F' := [(0, _), (2, _), (3, _), (4, _), (5, _)]) ⟨rfl, rfl, rfl, rfl, rfl, trivial⟩ ?_
    refine Post.then_ ?_
    refine Cd.condT rfl rfl ?_
    refine Cd.skip ?_
    refine Post.then_ ?_
    refine Cd.condT rfl rfl ?_
    refine Cd.seq ?_
    refine Cd.region ?_
    refine Seq.val (Runs.assign rfl rfl) rfl rfl rfl ?_
    refine Seq.val (Runs.assign rfl rfl) rfl rfl rfl ?_
    refine Seq.nil ?_
    refine Post.weak (F' := [(0, _), (2, _), (3, _), (4, _), (5, _)]) ⟨rfl, rfl, rfl, rfl, rfl, trivial⟩ ?_
    refine Post.then_ ?_
    refine Cd.ret ?_
    refine Post.block_ret ?_
    refine Post.then_ret ?_
    refine Post.end2 rfl rfl rfl (.inl rfl) ?_
    exact ⟨rfl, bel⟩
  · skip
    by_cases h2 : op = 2
    · subst h2
      refine Cd.seq ?_
      refine Cd.region ?_
      refine Seq.val (Runs.assign rfl rfl) rfl rfl rfl ?_
      refine Seq.val (Runs.assign rfl rfl) rfl rfl rfl ?_
      refine Seq.nil ?_
      refine Post.weak (F' := [(0, _), (2, _), (3, _)]) ⟨rfl, rfl, rfl, trivial⟩ ?_
      refine Post.then_ ?_
      refine Cd.seq ?_
      refine Cd.seq ?_
      refine Cd.region ?_
      refine Seq.val (Runs.move rfl rfl) rfl rfl rfl ?_
      refine Seq.nil ?_
      refine Post.weak (F' := [(0, _), (2, _), (3, _), (4, _)]) ⟨rfl, rfl, rfl, rfl, trivial⟩ ?_
      refine Post.then_ ?_
      refine Cd.block ?_
      refine Cd.seq ?_
      refine Cd.seq ?_
      refine Cd.region ?_
      refine Seq.val (Runs.eqlI rfl rfl rfl) rfl rfl rfl ?_
      refine Seq.val (Runs.assign rfl rfl) rfl rfl rfl ?_
      refine Seq.nil ?_
      refine Post.weak (F' := [(0, _), (2, _), (3, _), (4, _), (5, _)]) ⟨rfl, rfl, rfl, rfl, rfl, trivial⟩ ?_
      refine Post.then_ ?_
      refine Cd.condF rfl rfl ?_
      refine Cd.region ?_
      refine Seq.val (Runs.eqlI rfl rfl rfl) rfl rfl rfl ?_
      refine Seq.val (Runs.assign rfl rfl) rfl rfl rfl ?_
      refine Seq.nil ?_
      refine Post.weak (F' := [(0, _), (2, _), (3, _), (4, _), (5, _)]) ⟨rfl, rfl, rfl, rfl, rfl, trivial⟩ ?_
      refine Post.then_ ?_
      refine Cd.condT rfl rfl ?_
      refine Cd.seq ?_
      refine Cd.region ?_
      refine Seq.val (Runs.assign rfl rfl) rfl rfl rfl ?_
      refine Seq.val (Runs.assign rfl rfl) rfl rfl rfl ?_
      refine Seq.nil ?_
      refine Post.weak (F' := [(0, _), (2, _), (3, _), (4, _), (5, _)]) ⟨rfl, rfl, rfl, rfl, rfl, trivial⟩ ?_
      refine Post.then_ ?_
      refine Cd.ret ?_
      refine Post.block_ret ?_
      refine Post.then_ret ?_
      refine Post.end2 rfl rfl rfl (.inl rfl) ?_
      exact ⟨rfl, bel⟩
    · skip
      by_cases h3 : op = 3
      · subst h3
        refine Cd.seq ?_
        refine Cd.region ?_
        refine Seq.val (Runs.assign rfl rfl) rfl rfl rfl ?_
        refine Seq.val (Runs.assign rfl rfl) rfl rfl rfl ?_
        refine Seq.nil ?_
        refine Post.weak (F' := [(0, _), (2, _), (3, _)]) ⟨rfl, rfl, rfl, trivial⟩ ?_
        refine Post.then_ ?_
        refine Cd.seq ?_
        refine Cd.seq ?_
        refine Cd.region ?_
        refine Seq.val (Runs.move rfl rfl) rfl rfl rfl ?_
        refine Seq.nil ?_
        refine Post.weak (F' := [(0, _), (2, _), (3, _), (4, _)]) ⟨rfl, rfl, rfl, rfl, trivial⟩ ?_
        refine Post.then_ ?_
        refine Cd.block ?_
        refine Cd.seq ?_
        refine Cd.seq ?_
        refine Cd.region ?_
        refine Seq.val (Runs.eqlI rfl rfl rfl) rfl rfl rfl ?_
        refine Seq.val (Runs.assign rfl rfl) rfl rfl rfl ?_
        refine Seq.nil ?_
        refine Post.weak (F' := [(0, _), (2, _), (3, _), (4, _), (5, _)]) ⟨rfl, rfl, rfl, rfl, rfl, trivial⟩ ?_
        refine Post.then_ ?_
        refine Cd.condF rfl rfl ?_
        refine Cd.region ?_
        refine Seq.val (Runs.eqlI rfl rfl rfl) rfl rfl rfl ?_
        refine Seq.val (Runs.assign rfl rfl) rfl rfl rfl ?_
        refine Seq.nil ?_
        refine Post.weak (F' := [(0, _), (2, _), (3, _), (4, _), (5, _)]) ⟨rfl, rfl, rfl, rfl, rfl, trivial⟩ ?_
        refine Post.then_ ?_
        refine Cd.condF rfl rfl ?_
        refine Cd.seq ?_
        refine Cd.region ?_
        refine Seq.val (Runs.eqlI rfl rfl rfl) rfl rfl rfl ?_
        refine Seq.val (Runs.assign rfl rfl) rfl rfl rfl ?_
        refine Seq.nil ?_
        refine Post.weak (F' := [(0, _), (2, _), (3, _), (4, _), (5, _), (8, _)]) ⟨rfl, rfl, rfl, rfl, rfl, rfl, trivial⟩ ?_
        refine Post.then_ ?_
        refine Cd.condT rfl rfl ?_
        refine Cd.seq ?_
        refine Cd.region ?_
        refine Seq.val (Runs.assign rfl rfl) rfl rfl rfl ?_
        refine Seq.val (Runs.assign rfl rfl) rfl rfl rfl ?_
        refine Seq.nil ?_
        refine Post.weak (F' := [(0, _), (2, _), (3, _), (4, _), (5, _), (8, _)]) ⟨rfl, rfl, rfl, rfl, rfl, rfl, trivial⟩ ?_
        refine Post.then_ ?_
        refine Cd.ret ?_
        refine Post.block_ret ?_
        refine Post.then_ret ?_
        refine Post.end2 rfl rfl rfl (.inl rfl) ?_
        exact ⟨rfl, bel⟩
      · skip
        by_cases h4 : op = 4
        · subst h4
          refine Cd.seq ?_
          refine Cd.region ?_
          refine Seq.val (Runs.assign rfl rfl) rfl rfl rfl ?_
          refine Seq.val (Runs.assign rfl rfl) rfl rfl rfl ?_
          refine Seq.nil ?_
          refine Post.weak (F' := [(0, _), (2, _), (3, _)]) ⟨rfl, rfl, rfl, trivial⟩ ?_
          refine Post.then_ ?_
          refine Cd.seq ?_
          refine Cd.seq ?_
          refine Cd.region ?_
          refine Seq.val (Runs.move rfl rfl) rfl rfl rfl ?_
          refine Seq.nil ?_
          refine Post.weak (F' := [(0, _), (2, _), (3, _), (4, _)]) ⟨rfl, rfl, rfl, rfl, trivial⟩ ?_
          refine Post.then_ ?_
          refine Cd.block ?_
          refine Cd.seq ?_
          refine Cd.seq ?_
          refine Cd.region ?_
          refine Seq.val (Runs.eqlI rfl rfl rfl) rfl rfl rfl ?_
          refine Seq.val (Runs.assign rfl rfl) rfl rfl rfl ?_
          refine Seq.nil ?_
          refine Post.weak (F' := [(0, _), (2, _), (3, _), (4, _), (5, _)]) ⟨rfl, rfl, rfl, rfl, rfl, trivial⟩ ?_
          refine Post.then_ ?_
          refine Cd.condF rfl rfl ?_
          refine Cd.region ?_
          refine Seq.val (Runs.eqlI rfl rfl rfl) rfl rfl rfl ?_
          refine Seq.val (Runs.assign rfl rfl) rfl rfl rfl ?_
          refine Seq.nil ?_
          refine Post.weak (F' := [(0, _), (2, _), (3, _), (4, _), (5, _)]) ⟨rfl, rfl, rfl, rfl, rfl, trivial⟩ ?_
          refine Post.then_ ?_
          refine Cd.condF rfl rfl ?_
          refine Cd.seq ?_
          refine Cd.region ?_
          refine Seq.val (Runs.eqlI rfl rfl rfl) rfl rfl rfl ?_
          refine Seq.val (Runs.assign rfl rfl) rfl rfl rfl ?_
          refine Seq.nil ?_
          refine Post.weak (F' := [(0, _), (2, _), (3, _), (4, _), (5, _), (8, _)]) ⟨rfl, rfl, rfl, rfl, rfl, rfl, trivial⟩ ?_
          refine Post.then_ ?_
          refine Cd.condF rfl rfl ?_
          refine Cd.seq ?_
          refine Cd.seq ?_
          refine Cd.region ?_
          refine Seq.val (Runs.eqlI rfl rfl rfl) rfl rfl rfl ?_
          refine Seq.val (Runs.assign rfl rfl) rfl rfl rfl ?_
          refine Seq.nil ?_
          refine Post.weak (F' := [(0, _), (2, _), (3, _), (4, _), (5, _), (8, _), (10, _)]) ⟨rfl, rfl, rfl, rfl, rfl, rfl, rfl, trivial⟩ ?_
          refine Post.then_ ?_
          refine Cd.condT rfl rfl ?_
          refine Cd.skip ?_
          refine Post.then_ ?_
          refine Cd.condT rfl rfl ?_
          refine Cd.seq ?_
          refine Cd.region ?_
          refine Seq.val (Runs.assign rfl rfl) rfl rfl rfl ?_
          refine Seq.val (Runs.assign rfl rfl) rfl rfl rfl ?_
          refine Seq.nil ?_
          refine Post.weak (F' := [(0, _), (2, _), (3, _), (4, _), (5, _), (8, _), (10, _)]) ⟨rfl, rfl, rfl, rfl, rfl, rfl, rfl, trivial⟩ ?_
          refine Post.then_ ?_
          refine Cd.ret ?_
          refine Post.block_ret ?_
          refine Post.then_ret ?_
          refine Post.end2 rfl rfl rfl (.inl rfl) ?_
          exact ⟨rfl, bel⟩
        · skip
          by_cases h5 : op = 5
          · subst h5
            refine Cd.seq ?_
            refine Cd.region ?_
            refine Seq.val (Runs.assign rfl rfl) rfl rfl rfl ?_
            refine Seq.val (Runs.assign rfl rfl) rfl rfl rfl ?_
            refine Seq.nil ?_
            refine Post.weak (F' := [(0, _), (2, _), (3, _)]) ⟨rfl, rfl, rfl, trivial⟩ ?_
            refine Post.then_ ?_
            refine Cd.seq ?_
            refine Cd.seq ?_
            refine Cd.region ?_
            refine Seq.val (Runs.move rfl rfl) rfl rfl rfl ?_
            refine Seq.nil ?_
            refine Post.weak (F' := [(0, _), (2, _), (3, _), (4, _)]) ⟨rfl, rfl, rfl, rfl, trivial⟩ ?_
            refine Post.then_ ?_
            refine Cd.block ?_
            refine Cd.seq ?_
            refine Cd.seq ?_
            refine Cd.region ?_
            refine Seq.val (Runs.eqlI rfl rfl rfl) rfl rfl rfl ?_
            refine Seq.val (Runs.assign rfl rfl) rfl rfl rfl ?_
            refine Seq.nil ?_
            refine Post.weak (F' := [(0, _), (2, _), (3, _), (4, _), (5, _)]) ⟨rfl, rfl, rfl, rfl, rfl, trivial⟩ ?_
            refine Post.then_ ?_
            refine Cd.condF rfl rfl ?_
            refine Cd.region ?_
            refine Seq.val (Runs.eqlI rfl rfl rfl) rfl rfl rfl ?_
            refine Seq.val (Runs.assign rfl rfl) rfl rfl rfl ?_
            refine Seq.nil ?_
            refine Post.weak (F' := [(0, _), (2, _), (3, _), (4, _), (5, _)]) ⟨rfl, rfl, rfl, rfl, rfl, trivial⟩ ?_
            refine Post.then_ ?_
            refine Cd.condF rfl rfl ?_
            refine Cd.seq ?_
            refine Cd.region ?_
            refine Seq.val (Runs.eqlI rfl rfl rfl) rfl rfl rfl ?_
            refine Seq.val (Runs.assign rfl rfl) rfl rfl rfl ?_
            refine Seq.nil ?_
            refine Post.weak (F' := [(0, _), (2, _), (3, _), (4, _), (5, _), (8, _)]) ⟨rfl, rfl, rfl, rfl, rfl, rfl, trivial⟩ ?_
            refine Post.then_ ?_
            refine Cd.condF rfl rfl ?_
            refine Cd.seq ?_
            refine Cd.seq ?_
            refine Cd.region ?_
            refine Seq.val (Runs.eqlI rfl rfl rfl) rfl rfl rfl ?_
            refine Seq.val (Runs.assign rfl rfl) rfl rfl rfl ?_
            refine Seq.nil ?_
            refine Post.weak (F' := [(0, _), (2, _), (3, _), (4, _), (5, _), (8, _), (10, _)]) ⟨rfl, rfl, rfl, rfl, rfl, rfl, rfl, trivial⟩ ?_
            refine Post.then_ ?_
            refine Cd.condF rfl rfl ?_
            refine Cd.region ?_
            refine Seq.val (Runs.eqlI rfl rfl rfl) rfl rfl rfl ?_
            refine Seq.val (Runs.assign rfl rfl) rfl rfl rfl ?_
            refine Seq.nil ?_
            refine Post.weak (F' := [(0, _), (2, _), (3, _), (4, _), (5, _), (8, _), (10, _)]) ⟨rfl, rfl, rfl, rfl, rfl, rfl, rfl, trivial⟩ ?_
            refine Post.then_ ?_
            refine Cd.condT rfl rfl ?_
            refine Cd.seq ?_
            refine Cd.region ?_
            refine Seq.val (Runs.assign rfl rfl) rfl rfl rfl ?_
            refine Seq.val (Runs.assign rfl rfl) rfl rfl rfl ?_
            refine Seq.nil ?_
            refine Post.weak (F' := [(0, _), (2, _), (3, _), (4, _), (5, _), (8, _), (10, _)]) ⟨rfl, rfl, rfl, rfl, rfl, rfl, rfl, trivial⟩ ?_
            refine Post.then_ ?_
            refine Cd.ret ?_
            refine Post.block_ret ?_
            refine Post.then_ret ?_
            refine Post.end2 rfl rfl rfl (.inl rfl) ?_
            exact ⟨rfl, bel⟩
          · skip
            by_cases h6 : op = 6
            · subst h6
              refine Cd.seq ?_
              refine Cd.region ?_
              refine Seq.val (Runs.assign rfl rfl) rfl rfl rfl ?_
              refine Seq.val (Runs.assign rfl rfl) rfl rfl rfl ?_
              refine Seq.nil ?_
              refine Post.weak (F' := [(0, _), (2, _), (3, _)]) ⟨rfl, rfl, rfl, trivial⟩ ?_
              refine Post.then_ ?_
              refine Cd.seq ?_
              refine Cd.seq ?_
              refine Cd.region ?_
              refine Seq.val (Runs.move rfl rfl) rfl rfl rfl ?_
              refine Seq.nil ?_
              refine Post.weak (F' := [(0, _), (2, _), (3, _), (4, _)]) ⟨rfl, rfl, rfl, rfl, trivial⟩ ?_
              refine Post.then_ ?_
              refine Cd.block ?_
              refine Cd.seq ?_
              refine Cd.seq ?_
              refine Cd.region ?_
              refine Seq.val (Runs.eqlI rfl rfl rfl) rfl rfl rfl ?_
              refine Seq.val (Runs.assign rfl rfl) rfl rfl rfl ?_
              refine Seq.nil ?_
              refine Post.weak (F' := [(0, _), (2, _), (3, _), (4, _), (5, _)]) ⟨rfl, rfl, rfl, rfl, rfl, trivial⟩ ?_
              refine Post.then_ ?_
              refine Cd.condF rfl rfl ?_
              refine Cd.region ?_
              refine Seq.val (Runs.eqlI rfl rfl rfl) rfl rfl rfl ?_
              refine Seq.val (Runs.assign rfl rfl) rfl rfl rfl ?_
              refine Seq.nil ?_
              refine Post.weak (F' := [(0, _), (2, _), (3, _), (4, _), (5, _)]) ⟨rfl, rfl, rfl, rfl, rfl, trivial⟩ ?_
              refine Post.then_ ?_
              refine Cd.condF rfl rfl ?_
              refine Cd.seq ?_
              refine Cd.region ?_
              refine Seq.val (Runs.eqlI rfl rfl rfl) rfl rfl rfl ?_
              refine Seq.val (Runs.assign rfl rfl) rfl rfl rfl ?_
              refine Seq.nil ?_
              refine Post.weak (F' := [(0, _), (2, _), (3, _), (4, _), (5, _), (8, _)]) ⟨rfl, rfl, rfl, rfl, rfl, rfl, trivial⟩ ?_
              refine Post.then_ ?_
              refine Cd.condF rfl rfl ?_
              refine Cd.seq ?_
              refine Cd.seq ?_
              refine Cd.region ?_
              refine Seq.val (Runs.eqlI rfl rfl rfl) rfl rfl rfl ?_
              refine Seq.val (Runs.assign rfl rfl) rfl rfl rfl ?_
              refine Seq.nil ?_
              refine Post.weak (F' := [(0, _), (2, _), (3, _), (4, _), (5, _), (8, _), (10, _)]) ⟨rfl, rfl, rfl, rfl, rfl, rfl, rfl, trivial⟩ ?_
              refine Post.then_ ?_
              refine Cd.condF rfl rfl ?_
              refine Cd.region ?_
              refine Seq.val (Runs.eqlI rfl rfl rfl) rfl rfl rfl ?_
              refine Seq.val (Runs.assign rfl rfl) rfl rfl rfl ?_
              refine Seq.nil ?_
              refine Post.weak (F' := [(0, _), (2, _), (3, _), (4, _), (5, _), (8, _), (10, _)]) ⟨rfl, rfl, rfl, rfl, rfl, rfl, rfl, trivial⟩ ?_
              refine Post.then_ ?_
              refine Cd.condF rfl rfl ?_
              refine Cd.seq ?_
              refine Cd.seq ?_
              refine Cd.region ?_
              refine Seq.val (Runs.eqlI rfl rfl rfl) rfl rfl rfl ?_
              refine Seq.val (Runs.assign rfl rfl) rfl rfl rfl ?_
              refine Seq.nil ?_
              refine Post.weak (F' := [(0, _), (2, _), (3, _), (4, _), (5, _), (8, _), (10, _), (13, _)]) ⟨rfl, rfl, rfl, rfl, rfl, rfl, rfl, rfl, trivial⟩ ?_
              refine Post.then_ ?_
              refine Cd.condT rfl rfl ?_
              refine Cd.skip ?_
              refine Post.then_ ?_
              refine Cd.condT rfl rfl ?_
              refine Cd.seq ?_
              refine Cd.region ?_
              refine Seq.val (Runs.assign rfl rfl) rfl rfl rfl ?_
              refine Seq.val (Runs.assign rfl rfl) rfl rfl rfl ?_
              refine Seq.nil ?_
              refine Post.weak (F' := [(0, _), (2, _), (3, _), (4, _), (5, _), (8, _), (10, _), (13, _)]) ⟨rfl, rfl, rfl, rfl, rfl, rfl, rfl, rfl, trivial⟩ ?_
              refine Post.then_ ?_
              refine Cd.ret ?_
              refine Post.block_ret ?_
              refine Post.then_ret ?_
              refine Post.end2 rfl rfl rfl (.inl rfl) ?_
              exact ⟨rfl, bel⟩
            · skip
              by_cases h7 : op = 7
              · subst h7
                refine Cd.seq ?_
                refine Cd.region ?_
                refine Seq.val (Runs.assign rfl rfl) rfl rfl rfl ?_
                refine Seq.val (Runs.assign rfl rfl) rfl rfl rfl ?_
                refine Seq.nil ?_
                refine Post.weak (F' := [(0, _), (2, _), (3, _)]) ⟨rfl, rfl, rfl, trivial⟩ ?_
                refine Post.then_ ?_
                refine Cd.seq ?_
                refine Cd.seq ?_
                refine Cd.region ?_
                refine Seq.val (Runs.move rfl rfl) rfl rfl rfl ?_
                refine Seq.nil ?_
                refine Post.weak (F' := [(0, _), (2, _), (3, _), (4, _)]) ⟨rfl, rfl, rfl, rfl, trivial⟩ ?_
                refine Post.then_ ?_
                refine Cd.block ?_
                refine Cd.seq ?_
                refine Cd.seq ?_
                refine Cd.region ?_
                refine Seq.val (Runs.eqlI rfl rfl rfl) rfl rfl rfl ?_
                refine Seq.val (Runs.assign rfl rfl) rfl rfl rfl ?_
                refine Seq.nil ?_
                refine Post.weak (F' := [(0, _), (2, _), (3, _), (4, _), (5, _)]) ⟨rfl, rfl, rfl, rfl, rfl, trivial⟩ ?_
                refine Post.then_ ?_
                refine Cd.condF rfl rfl ?_
                refine Cd.region ?_
                refine Seq.val (Runs.eqlI rfl rfl rfl) rfl rfl rfl ?_
                refine Seq.val (Runs.assign rfl rfl) rfl rfl rfl ?_
                refine Seq.nil ?_
                refine Post.weak (F' := [(0, _), (2, _), (3, _), (4, _), (5, _)]) ⟨rfl, rfl, rfl, rfl, rfl, trivial⟩ ?_
                refine Post.then_ ?_
                refine Cd.condF rfl rfl ?_
                refine Cd.seq ?_
                refine Cd.region ?_
                refine Seq.val (Runs.eqlI rfl rfl rfl) rfl rfl rfl ?_
                refine Seq.val (Runs.assign rfl rfl) rfl rfl rfl ?_
                refine Seq.nil ?_
                refine Post.weak (F' := [(0, _), (2, _), (3, _), (4, _), (5, _), (8, _)]) ⟨rfl, rfl, rfl, rfl, rfl, rfl, trivial⟩ ?_
                refine Post.then_ ?_
                refine Cd.condF rfl rfl ?_
                refine Cd.seq ?_
                refine Cd.seq ?_
                refine Cd.region ?_
                refine Seq.val (Runs.eqlI rfl rfl rfl) rfl rfl rfl ?_
                refine Seq.val (Runs.assign rfl rfl) rfl rfl rfl ?_
                refine Seq.nil ?_
                refine Post.weak (F' := [(0, _), (2, _), (3, _), (4, _), (5, _), (8, _), (10, _)]) ⟨rfl, rfl, rfl, rfl, rfl, rfl, rfl, trivial⟩ ?_
                refine Post.then_ ?_
                refine Cd.condF rfl rfl ?_
                refine Cd.region ?_
                refine Seq.val (Runs.eqlI rfl rfl rfl) rfl rfl rfl ?_
                refine Seq.val (Runs.assign rfl rfl) rfl rfl rfl ?_
                refine Seq.nil ?_
                refine Post.weak (F' := [(0, _), (2, _), (3, _), (4, _), (5, _), (8, _), (10, _)]) ⟨rfl, rfl, rfl, rfl, rfl, rfl, rfl, trivial⟩ ?_
                refine Post.then_ ?_
                refine Cd.condF rfl rfl ?_
                refine Cd.seq ?_
                refine Cd.seq ?_
                refine Cd.region ?_
                refine Seq.val (Runs.eqlI rfl rfl rfl) rfl rfl rfl ?_
                refine Seq.val (Runs.assign rfl rfl) rfl rfl rfl ?_
                refine Seq.nil ?_
                refine Post.weak (F' := [(0, _), (2, _), (3, _), (4, _), (5, _), (8, _), (10, _), (13, _)]) ⟨rfl, rfl, rfl, rfl, rfl, rfl, rfl, rfl, trivial⟩ ?_
                refine Post.then_ ?_
                refine Cd.condF rfl rfl ?_
                refine Cd.seq ?_
                refine Cd.region ?_
                refine Seq.val (Runs.eqlI rfl rfl rfl) rfl rfl rfl ?_
                refine Seq.val (Runs.assign rfl rfl) rfl rfl rfl ?_
                refine Seq.nil ?_
                refine Post.weak (F' := [(0, _), (2, _), (3, _), (4, _), (5, _), (8, _), (10, _), (13, _)]) ⟨rfl, rfl, rfl, rfl, rfl, rfl, rfl, rfl, trivial⟩ ?_
                refine Post.then_ ?_
                refine Cd.condT rfl rfl ?_
                refine Cd.skip ?_
                refine Post.then_ ?_
                refine Cd.condT rfl rfl ?_
                refine Cd.seq ?_
                refine Cd.region ?_
                refine Seq.val (Runs.assign rfl rfl) rfl rfl rfl ?_
                refine Seq.val (Runs.assign rfl rfl) rfl rfl rfl ?_
                refine Seq.nil ?_
                refine Post.weak (F' := [(0, _), (2, _), (3, _), (4, _), (5, _), (8, _), (10, _), (13, _)]) ⟨rfl, rfl, rfl, rfl, rfl, rfl, rfl, rfl, trivial⟩ ?_
                refine Post.then_ ?_
                refine Cd.ret ?_
                refine Post.block_ret ?_
                refine Post.then_ret ?_
                refine Post.end2 rfl rfl rfl (.inl rfl) ?_
                exact ⟨rfl, bel⟩
              · skip
                by_cases h8 : op = 8
                · subst h8
                  refine Cd.seq ?_
                  refine Cd.region ?_
                  refine Seq.val (Runs.assign rfl rfl) rfl rfl rfl ?_
                  refine Seq.val (Runs.assign rfl rfl) rfl rfl rfl ?_
                  refine Seq.nil ?_
                  refine Post.weak (F' := [(0, _), (2, _), (3, _)]) ⟨rfl, rfl, rfl, trivial⟩ ?_
                  refine Post.then_ ?_
                  refine Cd.seq ?_
                  refine Cd.seq ?_
                  refine Cd.region ?_
                  refine Seq.val (Runs.move rfl rfl) rfl rfl rfl ?_
                  refine Seq.nil ?_
                  refine Post.weak (F' := [(0, _), (2, _), (3, _), (4, _)]) ⟨rfl, rfl, rfl, rfl, trivial⟩ ?_
                  refine Post.then_ ?_
                  refine Cd.block ?_
                  refine Cd.seq ?_
                  refine Cd.seq ?_
                  refine Cd.region ?_
                  refine Seq.val (Runs.eqlI rfl rfl rfl) rfl rfl rfl ?_
                  refine Seq.val (Runs.assign rfl rfl) rfl rfl rfl ?_
                  refine Seq.nil ?_
                  refine Post.weak (F' := [(0, _), (2, _), (3, _), (4, _), (5, _)]) ⟨rfl, rfl, rfl, rfl, rfl, trivial⟩ ?_
                  refine Post.then_ ?_
                  refine Cd.condF rfl rfl ?_
                  refine Cd.region ?_
                  refine Seq.val (Runs.eqlI rfl rfl rfl) rfl rfl rfl ?_
                  refine Seq.val (Runs.assign rfl rfl) rfl rfl rfl ?_
                  refine Seq.nil ?_
                  refine Post.weak (F' := [(0, _), (2, _), (3, _), (4, _), (5, _)]) ⟨rfl, rfl, rfl, rfl, rfl, trivial⟩ ?_
                  refine Post.then_ ?_
                  refine Cd.condF rfl rfl ?_
                  refine Cd.seq ?_
                  refine Cd.region ?_
                  refine Seq.val (Runs.eqlI rfl rfl rfl) rfl rfl rfl ?_
                  refine Seq.val (Runs.assign rfl rfl) rfl rfl rfl ?_
                  refine Seq.nil ?_
                  refine Post.weak (F' := [(0, _), (2, _), (3, _), (4, _), (5, _), (8, _)]) ⟨rfl, rfl, rfl, rfl, rfl, rfl, trivial⟩ ?_
                  refine Post.then_ ?_
                  refine Cd.condF rfl rfl ?_
                  refine Cd.seq ?_
                  refine Cd.seq ?_
                  refine Cd.region ?_
                  refine Seq.val (Runs.eqlI rfl rfl rfl) rfl rfl rfl ?_
                  refine Seq.val (Runs.assign rfl rfl) rfl rfl rfl ?_
                  refine Seq.nil ?_
                  refine Post.weak (F' := [(0, _), (2, _), (3, _), (4, _), (5, _), (8, _), (10, _)]) ⟨rfl, rfl, rfl, rfl, rfl, rfl, rfl, trivial⟩ ?_
                  refine Post.then_ ?_
                  refine Cd.condF rfl rfl ?_
                  refine Cd.region ?_
                  refine Seq.val (Runs.eqlI rfl rfl rfl) rfl rfl rfl ?_
                  refine Seq.val (Runs.assign rfl rfl) rfl rfl rfl ?_
                  refine Seq.nil ?_
                  refine Post.weak (F' := [(0, _), (2, _), (3, _), (4, _), (5, _), (8, _), (10, _)]) ⟨rfl, rfl, rfl, rfl, rfl, rfl, rfl, trivial⟩ ?_
                  refine Post.then_ ?_
                  refine Cd.condF rfl rfl ?_
                  refine Cd.seq ?_
                  refine Cd.seq ?_
                  refine Cd.region ?_
                  refine Seq.val (Runs.eqlI rfl rfl rfl) rfl rfl rfl ?_
                  refine Seq.val (Runs.assign rfl rfl) rfl rfl rfl ?_
                  refine Seq.nil ?_
                  refine Post.weak (F' := [(0, _), (2, _), (3, _), (4, _), (5, _), (8, _), (10, _), (13, _)]) ⟨rfl, rfl, rfl, rfl, rfl, rfl, rfl, rfl, trivial⟩ ?_
                  refine Post.then_ ?_
                  refine Cd.condF rfl rfl ?_
                  refine Cd.seq ?_
                  refine Cd.region ?_
                  refine Seq.val (Runs.eqlI rfl rfl rfl) rfl rfl rfl ?_
                  refine Seq.val (Runs.assign rfl rfl) rfl rfl rfl ?_
                  refine Seq.nil ?_
                  refine Post.weak (F' := [(0, _), (2, _), (3, _), (4, _), (5, _), (8, _), (10, _), (13, _)]) ⟨rfl, rfl, rfl, rfl, rfl, rfl, rfl, rfl, trivial⟩ ?_
                  refine Post.then_ ?_
                  refine Cd.condF rfl rfl ?_
                  refine Cd.seq ?_
                  refine Cd.region ?_
                  refine Seq.val (Runs.eqlI rfl rfl rfl) rfl rfl rfl ?_
                  refine Seq.val (Runs.assign rfl rfl) rfl rfl rfl ?_
                  refine Seq.nil ?_
                  refine Post.weak (F' := [(0, _), (2, _), (3, _), (4, _), (5, _), (8, _), (10, _), (13, _)]) ⟨rfl, rfl, rfl, rfl, rfl, rfl, rfl, rfl, trivial⟩ ?_
                  refine Post.then_ ?_
                  refine Cd.condT rfl rfl ?_
                  refine Cd.skip ?_
                  refine Post.then_ ?_
                  refine Cd.condT rfl rfl ?_
                  refine Cd.seq ?_
                  refine Cd.region ?_
                  refine Seq.val (Runs.assign rfl rfl) rfl rfl rfl ?_
                  refine Seq.val (Runs.assign rfl rfl) rfl rfl rfl ?_
                  refine Seq.nil ?_
                  refine Post.weak (F' := [(0, _), (2, _), (3, _), (4, _), (5, _), (8, _), (10, _), (13, _)]) ⟨rfl, rfl, rfl, rfl, rfl, rfl, rfl, rfl, trivial⟩ ?_
                  refine Post.then_ ?_
                  refine Cd.ret ?_
                  refine Post.block_ret ?_
                  refine Post.then_ret ?_
                  refine Post.end2 rfl rfl rfl (.inl rfl) ?_
                  exact ⟨rfl, bel⟩
                · skip
                  by_cases h9 : op = 9
                  · subst h9
                    refine Cd.seq ?_
                    refine Cd.region ?_
                    refine Seq.val (Runs.assign rfl rfl) rfl rfl rfl ?_
                    refine Seq.val (Runs.assign rfl rfl) rfl rfl rfl ?_
                    refine Seq.nil ?_
                    refine Post.weak (F' := [(0, _), (2, _), (3, _)]) ⟨rfl, rfl, rfl, trivial⟩ ?_
                    refine Post.then_ ?_
                    refine Cd.seq ?_
                    refine Cd.seq ?_
                    refine Cd.region ?_
                    refine Seq.val (Runs.move rfl rfl) rfl rfl rfl ?_
                    refine Seq.nil ?_
                    refine Post.weak (F' := [(0, _), (2, _), (3, _), (4, _)]) ⟨rfl, rfl, rfl, rfl, trivial⟩ ?_
                    refine Post.then_ ?_
                    refine Cd.block ?_
                    refine Cd.seq ?_
                    refine Cd.seq ?_
                    refine Cd.region ?_
                    refine Seq.val (Runs.eqlI rfl rfl rfl) rfl rfl rfl ?_
                    refine Seq.val (Runs.assign rfl rfl) rfl rfl rfl ?_
                    refine Seq.nil ?_
                    refine Post.weak (F' := [(0, _), (2, _), (3, _), (4, _), (5, _)]) ⟨rfl, rfl, rfl, rfl, rfl, trivial⟩ ?_
                    refine Post.then_ ?_
                    refine Cd.condF rfl rfl ?_
                    refine Cd.region ?_
                    refine Seq.val (Runs.eqlI rfl rfl rfl) rfl rfl rfl ?_
                    refine Seq.val (Runs.assign rfl rfl) rfl rfl rfl ?_
                    refine Seq.nil ?_
                    refine Post.weak (F' := [(0, _), (2, _), (3, _), (4, _), (5, _)]) ⟨rfl, rfl, rfl, rfl, rfl, trivial⟩ ?_
                    refine Post.then_ ?_
                    refine Cd.condF rfl rfl ?_
                    refine Cd.seq ?_
                    refine Cd.region ?_
                    refine Seq.val (Runs.eqlI rfl rfl rfl) rfl rfl rfl ?_
                    refine Seq.val (Runs.assign rfl rfl) rfl rfl rfl ?_
                    refine Seq.nil ?_
                    refine Post.weak (F' := [(0, _), (2, _), (3, _), (4, _), (5, _), (8, _)]) ⟨rfl, rfl, rfl, rfl, rfl, rfl, trivial⟩ ?_
                    refine Post.then_ ?_
                    refine Cd.condF rfl rfl ?_
                    refine Cd.seq ?_
                    refine Cd.seq ?_
                    refine Cd.region ?_
                    refine Seq.val (Runs.eqlI rfl rfl rfl) rfl rfl rfl ?_
                    refine Seq.val (Runs.assign rfl rfl) rfl rfl rfl ?_
                    refine Seq.nil ?_
                    refine Post.weak (F' := [(0, _), (2, _), (3, _), (4, _), (5, _), (8, _), (10, _)]) ⟨rfl, rfl, rfl, rfl, rfl, rfl, rfl, trivial⟩ ?_
                    refine Post.then_ ?_
                    refine Cd.condF rfl rfl ?_
                    refine Cd.region ?_
                    refine Seq.val (Runs.eqlI rfl rfl rfl) rfl rfl rfl ?_
                    refine Seq.val (Runs.assign rfl rfl) rfl rfl rfl ?_
                    refine Seq.nil ?_
                    refine Post.weak (F' := [(0, _), (2, _), (3, _), (4, _), (5, _), (8, _), (10, _)]) ⟨rfl, rfl, rfl, rfl, rfl, rfl, rfl, trivial⟩ ?_
                    refine Post.then_ ?_
                    refine Cd.condF rfl rfl ?_
                    refine Cd.seq ?_
                    refine Cd.seq ?_
                    refine Cd.region ?_
                    refine Seq.val (Runs.eqlI rfl rfl rfl) rfl rfl rfl ?_
                    refine Seq.val (Runs.assign rfl rfl) rfl rfl rfl ?_
                    refine Seq.nil ?_
                    refine Post.weak (F' := [(0, _), (2, _), (3, _), (4, _), (5, _), (8, _), (10, _), (13, _)]) ⟨rfl, rfl, rfl, rfl, rfl, rfl, rfl, rfl, trivial⟩ ?_
                    refine Post.then_ ?_
                    refine Cd.condF rfl rfl ?_
                    refine Cd.seq ?_
                    refine Cd.region ?_
                    refine Seq.val (Runs.eqlI rfl rfl rfl) rfl rfl rfl ?_
                    refine Seq.val (Runs.assign rfl rfl) rfl rfl rfl ?_
                    refine Seq.nil ?_
                    refine Post.weak (F' := [(0, _), (2, _), (3, _), (4, _), (5, _), (8, _), (10, _), (13, _)]) ⟨rfl, rfl, rfl, rfl, rfl, rfl, rfl, rfl, trivial⟩ ?_
                    refine Post.then_ ?_
                    refine Cd.condF rfl rfl ?_
                    refine Cd.seq ?_
                    refine Cd.region ?_
                    refine Seq.val (Runs.eqlI rfl rfl rfl) rfl rfl rfl ?_
                    refine Seq.val (Runs.assign rfl rfl) rfl rfl rfl ?_
                    refine Seq.nil ?_
                    refine Post.weak (F' := [(0, _), (2, _), (3, _), (4, _), (5, _), (8, _), (10, _), (13, _)]) ⟨rfl, rfl, rfl, rfl, rfl, rfl, rfl, rfl, trivial⟩ ?_
                    refine Post.then_ ?_
                    refine Cd.condF rfl rfl ?_
                    refine Cd.region ?_
                    refine Seq.val (Runs.eqlI rfl rfl rfl) rfl rfl rfl ?_
                    refine Seq.val (Runs.assign rfl rfl) rfl rfl rfl ?_
                    refine Seq.nil ?_
                    refine Post.weak (F' := [(0, _), (2, _), (3, _), (4, _), (5, _), (8, _), (10, _), (13, _)]) ⟨rfl, rfl, rfl, rfl, rfl, rfl, rfl, rfl, trivial⟩ ?_
                    refine Post.then_ ?_
                    refine Cd.condT rfl rfl ?_
                    refine Cd.seq ?_
                    refine Cd.region ?_
                    refine Seq.val (Runs.assign rfl rfl) rfl rfl rfl ?_
                    refine Seq.val (Runs.assign rfl rfl) rfl rfl rfl ?_
                    refine Seq.nil ?_
                    refine Post.weak (F' := [(0, _), (2, _), (3, _), (4, _), (5, _), (8, _), (10, _), (13, _)]) ⟨rfl, rfl, rfl, rfl, rfl, rfl, rfl, rfl, trivial⟩ ?_
                    refine Post.then_ ?_
                    refine Cd.ret ?_
                    refine Post.block_ret ?_
                    refine Post.then_ret ?_
                    refine Post.end2 rfl rfl rfl (.inl rfl) ?_
                    exact ⟨rfl, bel⟩
                  · skip
                    refine Cd.seq ?_
                    refine Cd.region ?_
                    refine Seq.val (Runs.assign rfl rfl) rfl rfl rfl ?_
                    refine Seq.val (Runs.assign rfl rfl) rfl rfl rfl ?_
                    refine Seq.nil ?_
                    refine Post.weak (F' := [(0, _), (2, _), (3, _)]) ⟨rfl, rfl, rfl, trivial⟩ ?_
                    refine Post.then_ ?_
                    refine Cd.seq ?_
                    refine Cd.seq ?_
                    refine Cd.region ?_
                    refine Seq.val (Runs.move rfl rfl) rfl rfl rfl ?_
                    refine Seq.nil ?_
                    refine Post.weak (F' := [(0, _), (2, _), (3, _), (4, _)]) ⟨rfl, rfl, rfl, rfl, trivial⟩ ?_
                    refine Post.then_ ?_
                    refine Cd.block ?_
                    refine Cd.seq ?_
                    refine Cd.seq ?_
                    refine Cd.region ?_
                    refine Seq.val (Runs.eqlI rfl rfl rfl) rfl rfl rfl ?_
                    refine Seq.val (Runs.assign rfl rfl) rfl rfl rfl ?_
                    refine Seq.nil ?_
                    refine Post.weak (F' := [(0, _), (2, _), (3, _), (4, _), (5, _)]) ⟨rfl, rfl, rfl, rfl, rfl, trivial⟩ ?_
                    refine Post.then_ ?_
                    refine Cd.condF rfl (decide_eq_false h1) ?_
                    refine Cd.region ?_
                    refine Seq.val (Runs.eqlI rfl rfl rfl) rfl rfl rfl ?_
                    refine Seq.val (Runs.assign rfl rfl) rfl rfl rfl ?_
                    refine Seq.nil ?_
                    refine Post.weak (F' := [(0, _), (2, _), (3, _), (4, _), (5, _)]) ⟨rfl, rfl, rfl, rfl, rfl, trivial⟩ ?_
                    refine Post.then_ ?_
                    refine Cd.condF rfl (decide_eq_false h2) ?_
                    refine Cd.seq ?_
                    refine Cd.region ?_
                    refine Seq.val (Runs.eqlI rfl rfl rfl) rfl rfl rfl ?_
                    refine Seq.val (Runs.assign rfl rfl) rfl rfl rfl ?_
                    refine Seq.nil ?_
                    refine Post.weak (F' := [(0, _), (2, _), (3, _), (4, _), (5, _), (8, _)]) ⟨rfl, rfl, rfl, rfl, rfl, rfl, trivial⟩ ?_
                    refine Post.then_ ?_
                    refine Cd.condF rfl (decide_eq_false h3) ?_
                    refine Cd.seq ?_
                    refine Cd.seq ?_
                    refine Cd.region ?_
                    refine Seq.val (Runs.eqlI rfl rfl rfl) rfl rfl rfl ?_
                    refine Seq.val (Runs.assign rfl rfl) rfl rfl rfl ?_
                    refine Seq.nil ?_
                    refine Post.weak (F' := [(0, _), (2, _), (3, _), (4, _), (5, _), (8, _), (10, _)]) ⟨rfl, rfl, rfl, rfl, rfl, rfl, rfl, trivial⟩ ?_
                    refine Post.then_ ?_
                    refine Cd.condF rfl (decide_eq_false h4) ?_
                    refine Cd.region ?_
                    refine Seq.val (Runs.eqlI rfl rfl rfl) rfl rfl rfl ?_
                    refine Seq.val (Runs.assign rfl rfl) rfl rfl rfl ?_
                    refine Seq.nil ?_
                    refine Post.weak (F' := [(0, _), (2, _), (3, _), (4, _), (5, _), (8, _), (10, _)]) ⟨rfl, rfl, rfl, rfl, rfl, rfl, rfl, trivial⟩ ?_
                    refine Post.then_ ?_
                    refine Cd.condF rfl (decide_eq_false h5) ?_
                    refine Cd.seq ?_
                    refine Cd.seq ?_
                    refine Cd.region ?_
                    refine Seq.val (Runs.eqlI rfl rfl rfl) rfl rfl rfl ?_
                    refine Seq.val (Runs.assign rfl rfl) rfl rfl rfl ?_
                    refine Seq.nil ?_
                    refine Post.weak (F' := [(0, _), (2, _), (3, _), (4, _), (5, _), (8, _), (10, _), (13, _)]) ⟨rfl, rfl, rfl, rfl, rfl, rfl, rfl, rfl, trivial⟩ ?_
                    refine Post.then_ ?_
                    refine Cd.condF rfl (decide_eq_false h6) ?_
                    refine Cd.seq ?_
                    refine Cd.region ?_
                    refine Seq.val (Runs.eqlI rfl rfl rfl) rfl rfl rfl ?_
                    refine Seq.val (Runs.assign rfl rfl) rfl rfl rfl ?_
                    refine Seq.nil ?_
                    refine Post.weak (F' := [(0, _), (2, _), (3, _), (4, _), (5, _), (8, _), (10, _), (13, _)]) ⟨rfl, rfl, rfl, rfl, rfl, rfl, rfl, rfl, trivial⟩ ?_
                    refine Post.then_ ?_
                    refine Cd.condF rfl (decide_eq_false h7) ?_
                    refine Cd.seq ?_
                    refine Cd.region ?_
                    refine Seq.val (Runs.eqlI rfl rfl rfl) rfl rfl rfl ?_
                    refine Seq.val (Runs.assign rfl rfl) rfl rfl rfl ?_
                    refine Seq.nil ?_
                    refine Post.weak (F' := [(0, _), (2, _), (3, _), (4, _), (5, _), (8, _), (10, _), (13, _)]) ⟨rfl, rfl, rfl, rfl, rfl, rfl, rfl, rfl, trivial⟩ ?_
                    refine Post.then_ ?_
                    refine Cd.condF rfl (decide_eq_false h8) ?_
                    refine Cd.region ?_
                    refine Seq.val (Runs.eqlI rfl rfl rfl) rfl rfl rfl ?_
                    refine Seq.val (Runs.assign rfl rfl) rfl rfl rfl ?_
                    refine Seq.nil ?_
                    refine Post.weak (F' := [(0, _), (2, _), (3, _), (4, _), (5, _), (8, _), (10, _), (13, _)]) ⟨rfl, rfl, rfl, rfl, rfl, rfl, rfl, rfl, trivial⟩ ?_
                    refine Post.then_ ?_
                    refine Cd.condF rfl (decide_eq_false h9) ?_
                    refine Cd.skip ?_
                    refine Post.block_normal ?_
                    refine Post.then_ ?_
                    refine Cd.seq ?_
                    refine Cd.region ?_
                    refine Seq.val (Runs.assign rfl rfl) rfl rfl rfl ?_
                    refine Seq.val (Runs.assign rfl rfl) rfl rfl rfl ?_
                    refine Seq.nil ?_
                    refine Post.weak (F' := [(0, _), (2, _), (3, _), (4, _), (5, _), (8, _), (10, _), (13, _)]) ⟨rfl, rfl, rfl, rfl, rfl, rfl, rfl, rfl, trivial⟩ ?_
                    refine Post.then_ ?_
                    refine Cd.ret ?_
                    refine Post.end2 rfl rfl rfl (.inl rfl) ?_
                    have hb : arT op = (-1, -1) := by unfold arT; rw [if_neg (by omega), if_neg h3, if_neg (by omega), if_neg (by omega)]
                    rw [hb]
                    exact ⟨rfl, bel⟩
def headTB (op : Int) (nm : List Nat) (n m : Nat) : Bool := decide (arT op = ((n : Int), (m : Int))) && !(decide (op = 2) && !freeB nm) && !(decide (op ≠ 2) && decide (nm ≠ []))
mutual
def builtT : Tm → Bool
  | .mk op nm es l => headTB op nm es.length l.length && es.all builtB && builtTL l
def builtTL : List Tm → Bool
  | [] => true
  | e :: r => builtT e && builtTL r
end
theorem builtTL_all : ∀ l, builtTL l = l.all builtT
  | [] => by rw [builtTL]; rfl
  | e :: r => by rw [builtTL, builtTL_all r]; rfl
theorem builtT_eq (t : Tm) : builtT t = (headTB t.op t.name t.exprs.length t.terms.length && t.exprs.all builtB && t.terms.all builtT) := by
  cases t; rw [builtT, builtTL_all]; rfl
theorem eg_tbuilt1 : ∀ args w, (callFunc 120 args).run Try.prog w = .ok (.enter 120 args) w := fun args w => run_enter Try.func120 (by kernel_rfl) rfl args w
theorem eg_tbuilt2 : ∀ args w, (callFunc 122 args).run Try.prog w = .ok (.enter 122 args) w := fun args w => run_enter Try.func122 (by kernel_rfl) rfl args w
theorem built_any (N : Nat) : ∀ (t : Tm) (B : Nat) (v : Value) (w : World), t.nodes ≤ N → RepB w B t v → B ≤ w.heap.size → Calls Try.prog 69 #[v] w fun en w' => en = .returned (.bool (builtT t)) ∧ Grow w w' := by
  induction N with
  | zero => intro t B v w hN; have := t.nodes_pos; omega
  | succ N ih =>
  intro t B v w hN hrep hB
  obtain ⟨A, c, A', c', rfl, hv⟩ := hrep.open
  have bel := Below.refl w.heap.size w
  have hnm := hv.name
  have hnl := hv.nlen
  have h60 := hv.h60
  have h60' := hv.h60'
  have hbt := builtT_eq t
  have hdum : RepV w B (.mk 1 0 [] t.exprs) A c := ⟨hv.h60, by show I64 1; unfold I64; omega, by show I64 0; unfold I64; omega, fun d hd => (by cases hd), by show (0 : Nat) ≤ _; omega, fun i x hx => hv.expr i x hx⟩
  have hcl := fun W (hb : Below w.heap.size w W) => containsE_any 120 [] (fun x => !builtB x) B A c (.mk 1 0 [] t.exprs) W (hdum.below (hb.mono hB)) (Nat.le_trans hB hb.size) eg_tbuilt1 (fun x hx v W2 hb2 hr => by
    have hs2 := Nat.le_trans hB (Nat.le_trans hb.size hb2.size)
    have hrec := fun W3 (hb3 : Below W2.heap.size W2 W3) => builtExpr_any x.nodes x B v W3 (Nat.le_refl _) (hr.below (hb3.mono hs2)) (Nat.le_trans hs2 hb3.size)
    obtain ⟨Ax, cx, rfl, -⟩ := hr.open
    have bel := Below.refl W2.heap.size W2
    generalize builtB x = q at *
    refine Calls.start 6 Try.func120 rfl rfl rfl ?_
    refine Cd.seq ?_
    refine Cd.region ?_
    refine Seq.box rfl rfl rfl rfl rfl ?_
    intro g1 w1 n1
    have e1 := Nat.le_trans bel.size n1.ge
    replace bel := bel.step n1.below
    have k1 := n1.blk
    refine Seq.val (Runs.assign rfl rfl) rfl rfl rfl ?_
    refine Seq.nil ?_
    refine Post.weak (F' := [(0, _), (1, _), (2, _)]) ⟨rfl, rfl, rfl, trivial⟩ ?_
    refine Post.then_ ?_
    refine Cd.seq ?_
    refine Cd.region ?_
    refine Seq.val (Runs.loadW rfl rfl Try.underlying35 rfl k1 (m := 4) (by kernel_rfl) rfl) rfl rfl rfl ?_
    refine Seq.call (Enters.func rfl rfl rfl (run_enter Try.func76 (by kernel_rfl) rfl)) rfl rfl rfl (hrec _ bel) ?_
    rintro en w5 ⟨rfl, hb5⟩
    refine ⟨_, rfl, ?_⟩
    replace bel := bel.step hb5
    replace k1 := k1.step hb5
    refine Seq.val (Runs.not rfl rfl) rfl rfl rfl ?_
    refine Seq.val (Runs.assign rfl rfl) rfl rfl rfl ?_
    refine Seq.nil ?_
    refine Post.weak (F' := [(0, _), (1, _), (2, _)]) ⟨rfl, rfl, rfl, trivial⟩ ?_
    refine Post.then_ ?_
    refine Cd.ret ?_
    refine Post.end1 rfl rfl (.inl rfl) ?_
    exact ⟨rfl, bel⟩)
  have hcl2 := fun W (hb : Below w.heap.size w W) => containsT_any 122 [] (fun x => !builtT x) B A' c' t.terms W hv.h60' (hv.term.below (hb.mono hB)) (Nat.le_trans hB hb.size) eg_tbuilt2 (fun x hx v W2 hb2 hr => by
    have hxn := Tm.term_nodes hx
    have hs2 := Nat.le_trans hB (Nat.le_trans hb.size hb2.size)
    have hrec := fun W3 (hb3 : Below W2.heap.size W2 W3) => ih x B v W3 (by omega) (hr.below (hb3.mono hs2)) (Nat.le_trans hs2 hb3.size)
    obtain ⟨A1, c1, A2, c2, rfl, -⟩ := hr.open
    have bel := Below.refl W2.heap.size W2
    generalize builtT x = q at *
    refine Calls.start 6 Try.func122 rfl rfl rfl ?_
    refine Cd.seq ?_
    refine Cd.region ?_
    refine Seq.box rfl rfl rfl rfl rfl ?_
    intro g1 w1 n1
    have e1 := Nat.le_trans bel.size n1.ge
    replace bel := bel.step n1.below
    have k1 := n1.blk
    refine Seq.val (Runs.assign rfl rfl) rfl rfl rfl ?_
    refine Seq.nil ?_
    refine Post.weak (F' := [(0, _), (1, _), (2, _)]) ⟨rfl, rfl, rfl, trivial⟩ ?_
    refine Post.then_ ?_
    refine Cd.seq ?_
    refine Cd.region ?_
    refine Seq.val (Runs.loadW rfl rfl Try.underlying57 rfl k1 (m := 4) (by kernel_rfl) rfl) rfl rfl rfl ?_
    refine Seq.call (Enters.func rfl rfl rfl (run_enter Try.func69 (by kernel_rfl) rfl)) rfl rfl rfl (hrec _ bel) ?_
    rintro en w5 ⟨rfl, hb5⟩
    refine ⟨_, rfl, ?_⟩
    replace bel := bel.step hb5
    replace k1 := k1.step hb5
    refine Seq.val (Runs.not rfl rfl) rfl rfl rfl ?_
    refine Seq.val (Runs.assign rfl rfl) rfl rfl rfl ?_
    refine Seq.nil ?_
    refine Post.weak (F' := [(0, _), (1, _), (2, _)]) ⟨rfl, rfl, rfl, trivial⟩ ?_
    refine Post.then_ ?_
    refine Cd.ret ?_
    refine Post.end1 rfl rfl (.inl rfl) ?_
    exact ⟨rfl, bel⟩)
  replace hcl : ∀ W, Below w.heap.size w W → Calls Try.prog 119 #[.slice A t.exprs.length c, .func (.func 120) #[] #[]] W fun en w' => en = .returned (.bool (t.exprs.any fun x => !builtB x)) ∧ Grow W w' := hcl
  refine Calls.start 54 Try.func69 rfl rfl rfl ?_
  refine Cd.seq ?_
  refine Cd.region ?_
  refine Seq.box rfl rfl rfl rfl rfl ?_
  intro g1 w1 n1
  have e1 := Nat.le_trans bel.size n1.ge
  replace bel := bel.step n1.below
  have k1 := n1.blk
  refine Seq.val (Runs.assign rfl rfl) rfl rfl rfl ?_
  refine Seq.nil ?_
  refine Post.weak (F' := [(0, _), (1, _), (2, _)]) ⟨rfl, rfl, rfl, trivial⟩ ?_
  refine Post.then_ ?_
  refine Cd.seq ?_
  refine Cd.region ?_
  refine Seq.val (Runs.fieldB 0 rfl rfl Try.underlying57 rfl (by kernel_rfl)) rfl rfl rfl ?_
  refine Seq.val (Runs.loadB rfl rfl Try.underlying3 rfl k1 rfl) rfl rfl rfl ?_
  refine Seq.call (Enters.func rfl rfl rfl (run_enter Try.func117 (by kernel_rfl) rfl)) rfl rfl rfl (arities_any t.op _) ?_
  rintro en w5 ⟨rfl, hb5⟩
  refine ⟨_, rfl, ?_⟩
  replace bel := bel.step hb5
  replace k1 := k1.step hb5
  refine Seq.val (Runs.move rfl rfl) rfl rfl rfl ?_
  refine Seq.val (Runs.extract rfl rfl rfl) rfl rfl rfl ?_
  refine Seq.val (Runs.extract rfl rfl rfl) rfl rfl rfl ?_
  refine Seq.val (Runs.assign rfl rfl) rfl rfl rfl ?_
  refine Seq.val (Runs.assign rfl rfl) rfl rfl rfl ?_
  refine Seq.nil ?_
  refine Post.weak (F' := [(0, _), (1, _), (2, _), (3, _), (4, _)]) ⟨rfl, rfl, rfl, rfl, rfl, trivial⟩ ?_
  refine Post.then_ ?_
  refine Cd.seq ?_
  refine Cd.seq ?_
  refine Cd.region ?_
  refine Seq.val (Runs.move rfl rfl) rfl rfl rfl ?_
  refine Seq.val (Runs.fieldB 2 rfl rfl Try.underlying57 rfl (by kernel_rfl)) rfl rfl rfl ?_
  refine Seq.val (Runs.loadB rfl rfl Try.underlying25 rfl k1 rfl) rfl rfl rfl ?_
  refine Seq.val (Runs.len rfl rfl Try.underlying25) rfl rfl rfl ?_
  refine Seq.val (Runs.neqI rfl rfl rfl) rfl rfl rfl ?_
  refine Seq.val (Runs.move rfl rfl) rfl rfl rfl ?_
  refine SeqC.start ?_
  refine SeqC.open rfl rfl rfl rfl rfl rfl rfl (fun hcx => Runs.move rfl rfl) ?_
  refine SeqC.next rfl rfl rfl rfl rfl rfl rfl (fun hcx => Runs.fieldB 3 rfl rfl Try.underlying57 rfl (by kernel_rfl)) ?_
  refine SeqC.next rfl rfl rfl rfl rfl rfl rfl (fun hcx => Runs.loadB rfl rfl Try.underlying27 rfl k1 rfl) ?_
  refine SeqC.next rfl rfl rfl rfl rfl rfl rfl (fun hcx => Runs.len rfl rfl Try.underlying27) ?_
  refine SeqC.next rfl rfl rfl rfl rfl rfl rfl (fun hcx => Runs.neqI rfl rfl rfl) ?_
  refine SeqC.or rfl rfl rfl rfl rfl rfl rfl ?_
  refine Seq.val (Runs.move rfl rfl) rfl rfl rfl ?_
  refine SeqC.start ?_
  refine SeqC.open rfl rfl rfl rfl rfl rfl rfl (fun hcx => Runs.fieldB 0 rfl rfl Try.underlying57 rfl (by kernel_rfl)) ?_
  refine SeqC.next rfl rfl rfl rfl rfl rfl rfl (fun hcx => Runs.loadB rfl rfl Try.underlying3 rfl k1 rfl) ?_
  refine SeqC.next rfl rfl rfl rfl rfl rfl rfl (fun hcx => Runs.eqlI rfl rfl rfl) ?_
  refine SeqC.next rfl rfl rfl rfl rfl rfl rfl (fun hcx => Runs.move rfl rfl) ?_
  refine SeqC.open rfl rfl rfl rfl rfl rfl rfl (fun hcx => Runs.fieldB 1 rfl rfl Try.underlying57 rfl (by kernel_rfl)) ?_
  refine SeqC.next rfl rfl rfl rfl rfl rfl rfl (fun hcx => Runs.loadB rfl rfl Try.underlying9 rfl k1 rfl) ?_
  refine SeqC.nextC rfl rfl rfl rfl rfl rfl rfl (fun hcx => Enters.func rfl rfl rfl (run_enter Try.func118 (by kernel_rfl) rfl)) (fun hcx => free_any t.name _ hnm hnl) ?_
  intro w2 hw2
  replace bel := bel.step hw2
  replace k1 := k1.step hw2
  refine SeqC.next rfl rfl rfl rfl rfl rfl rfl (fun hcx => Runs.not rfl rfl) ?_
  refine SeqC.andG rfl rfl rfl rfl rfl rfl rfl rfl rfl rfl rfl ?_
  refine SeqC.or rfl rfl rfl rfl rfl rfl rfl ?_
  refine Seq.val (Runs.move rfl rfl) rfl rfl rfl ?_
  refine SeqC.start ?_
  refine SeqC.open rfl rfl rfl rfl rfl rfl rfl (fun hcx => Runs.fieldB 0 rfl rfl Try.underlying57 rfl (by kernel_rfl)) ?_
  refine SeqC.next rfl rfl rfl rfl rfl rfl rfl (fun hcx => Runs.loadB rfl rfl Try.underlying3 rfl k1 rfl) ?_
  refine SeqC.next rfl rfl rfl rfl rfl rfl rfl (fun hcx => Runs.neqI rfl rfl rfl) ?_
  refine SeqC.next rfl rfl rfl rfl rfl rfl rfl (fun hcx => Runs.move rfl rfl) ?_
  refine SeqC.open rfl rfl rfl rfl rfl rfl rfl (fun hcx => Runs.fieldB 1 rfl rfl Try.underlying57 rfl (by kernel_rfl)) ?_
  refine SeqC.next rfl rfl rfl rfl rfl rfl rfl (fun hcx => Runs.loadB rfl rfl Try.underlying9 rfl k1 rfl) ?_
  refine SeqC.next rfl rfl rfl rfl rfl rfl rfl (fun hcx => Runs.neqL (a := t.name) (b := []) rfl rfl rfl hnm (by decide)) ?_
  refine SeqC.andG rfl rfl rfl rfl rfl rfl rfl rfl rfl rfl rfl ?_
  refine SeqC.or rfl rfl rfl rfl rfl rfl rfl ?_
  refine Seq.nil ?_
  refine Post.weak (F' := [(0, _), (1, _), (2, _), (3, _), (4, _), (43, _)]) ⟨rfl, rfl, rfl, rfl, rfl, rfl, trivial⟩ ?_
  refine Post.then_ ?_
  refine Cd.cond rfl (fun h => ?_) (fun h => ?_)
  · have hhead : headTB t.op t.name t.exprs.length t.terms.length = false := by
      cases hq : headTB t.op t.name t.exprs.length t.terms.length with
      | false => rfl
      | true =>
        exfalso
        unfold headTB at hq
        simp at hq h
        obtain ⟨⟨a, b⟩, c⟩ := hq
        rw [a] at h
        simp at h
        rcases h with ⟨x, y⟩ | ⟨x, y⟩
        · rcases b with b | b
          · exact b x
          · rw [b] at y; cases y
        · rcases c with c | c
          · exact x c
          · exact y c
    rw [hhead] at hbt
    refine Cd.seq ?_
    refine Cd.region ?_
    refine Seq.val (Runs.assign rfl rfl) rfl rfl rfl ?_
    refine Seq.nil ?_
    refine Post.weak (F' := [(0, _), (1, _), (2, _), (3, _), (4, _), (43, _)]) ⟨rfl, rfl, rfl, rfl, rfl, rfl, trivial⟩ ?_
    refine Post.then_ ?_
    refine Cd.ret ?_
    refine Post.then_ret ?_
    refine Post.end1 rfl rfl (.inl rfl) ?_
    rw [hbt]
    exact ⟨rfl, bel⟩
  · have hhead : headTB t.op t.name t.exprs.length t.terms.length = true := by
      unfold headTB
      simp at h ⊢
      obtain ⟨⟨⟨a1, a2⟩, b⟩, c⟩ := h
      refine ⟨⟨Prod.ext a1 a2, ?_⟩, ?_⟩
      · by_cases h2 : t.op = 2
        · exact .inr (b h2)
        · exact .inl h2
      · by_cases h2 : t.op = 2
        · exact .inl h2
        · exact .inr (c h2)
    rw [hhead] at hbt
    refine Cd.skip ?_
    refine Post.then_ ?_
    refine Cd.seq ?_
    refine Cd.region ?_
    refine Seq.val (Runs.fieldB 2 rfl rfl Try.underlying57 rfl (by kernel_rfl)) rfl rfl rfl ?_
    refine Seq.val (Runs.loadB rfl rfl Try.underlying25 rfl k1 rfl) rfl rfl rfl ?_
    refine Seq.call (Enters.func rfl rfl rfl (run_enter Try.func119 (by kernel_rfl) rfl)) rfl rfl rfl (hcl _ bel) ?_
    rintro en w6 ⟨rfl, hb6⟩
    refine ⟨_, rfl, ?_⟩
    replace bel := bel.step hb6
    replace k1 := k1.step hb6
    refine Seq.val (Runs.not rfl rfl) rfl rfl rfl ?_
    refine Seq.val (Runs.move rfl rfl) rfl rfl rfl ?_
    refine SeqC.start ?_
    refine SeqC.open rfl rfl rfl rfl rfl rfl rfl (fun hcx => Runs.fieldB 3 rfl rfl Try.underlying57 rfl (by kernel_rfl)) ?_
    refine SeqC.next rfl rfl rfl rfl rfl rfl rfl (fun hcx => Runs.loadB rfl rfl Try.underlying27 rfl k1 rfl) ?_
    refine SeqC.nextC rfl rfl rfl rfl rfl rfl rfl (fun hcx => Enters.func rfl rfl rfl (run_enter Try.func121 (by kernel_rfl) rfl)) (fun hcx => hcl2 _ bel) ?_
    intro w3 hw3
    replace bel := bel.step hw3
    replace k1 := k1.step hw3
    refine SeqC.next rfl rfl rfl rfl rfl rfl rfl (fun hcx => Runs.not rfl rfl) ?_
    refine SeqC.and rfl rfl rfl rfl rfl rfl rfl ?_
    refine Seq.val (Runs.assign rfl rfl) rfl rfl rfl ?_
    refine Seq.nil ?_
    refine Post.weak (F' := [(0, _), (1, _), (2, _), (3, _), (4, _), (43, _)]) ⟨rfl, rfl, rfl, rfl, rfl, rfl, trivial⟩ ?_
    refine Post.then_ ?_
    refine Cd.ret ?_
    refine Post.end1 rfl rfl (.inl rfl) ?_
    refine ⟨ret1 (bool_eq ?_), bel⟩
    rw [hbt, List.all_eq_not_any_not, List.all_eq_not_any_not, Bool.true_and]
/-- Whether a term is right. -/
def rightT (t : Tm) : Bool := decide (t.nodes ≤ 200) && decide (t.depth ≤ 16) && builtT t
theorem right_any (t : Tm) (B : Nat) (v : Value) (w : World) (hd : t.depth ≤ 900) (hrep : RepB w B t v) (hB : B ≤ w.heap.size) : Calls Try.prog 34 #[v] w fun en w' => en = .returned (.bool (rightT t)) ∧ Grow w w' := by
  have hs := fun W (hb : Below w.heap.size w W) => sizeTerm_any t.nodes t 0 B v W (Nat.le_refl _) (by omega) (hrep.below (hb.mono hB)) (Nat.le_trans hB hb.size)
  have hbt := fun W (hb : Below w.heap.size w W) => built_any t.nodes t B v W (Nat.le_refl _) (hrep.below (hb.mono hB)) (Nat.le_trans hB hb.size)
  have hc := szT_cnt t
  have hdn := t.depth_nodes
  have hres : (decide (t.nodes ≤ 200) && decide (t.depth ≤ 16)) = (decide ((szT t).1 ≤ 200) && decide ((szT t).2 ≤ 16)) := by
    obtain ⟨c1, c2⟩ := hc
    rw [Bool.eq_iff_iff]
    simp only [Bool.and_eq_true, decide_eq_true_eq]
    constructor
    · rintro ⟨h1, h2⟩
      rw [c2 (by omega)]
      omega
    · rintro ⟨h1, h2⟩
      have h3 : t.nodes ≤ 200 := by omega
      rw [c2 (by omega)] at h2
      omega
  unfold rightT
  rw [hres]
  obtain ⟨A, c, A', c', rfl, -⟩ := hrep.open
  have bel := Below.refl w.heap.size w
  generalize (szT t) = s at *
  refine Calls.start 10 Try.func34 rfl rfl rfl ?_
  refine Cd.seq ?_
  refine Cd.region ?_
  refine Seq.box rfl rfl rfl rfl rfl ?_
  intro g1 w1 n1
  have e1 := Nat.le_trans bel.size n1.ge
  replace bel := bel.step n1.below
  have k1 := n1.blk
  refine Seq.val (Runs.assign rfl rfl) rfl rfl rfl ?_
  refine Seq.nil ?_
  refine Post.weak (F' := [(0, _), (1, _), (2, _)]) ⟨rfl, rfl, rfl, trivial⟩ ?_
  refine Post.then_ ?_
  refine Cd.seq ?_
  refine Cd.region ?_
  refine Seq.val (Runs.loadW rfl rfl Try.underlying57 rfl k1 (m := 4) (by kernel_rfl) rfl) rfl rfl rfl ?_
  refine Seq.call (Enters.func rfl rfl rfl (run_enter Try.func67 (by kernel_rfl) rfl)) rfl rfl rfl (hs _ bel) ?_
  rintro en w5 ⟨rfl, hb5⟩
  refine ⟨_, rfl, ?_⟩
  replace bel := bel.step hb5
  replace k1 := k1.step hb5
  refine Seq.call (Enters.func rfl rfl rfl (run_enter Try.func68 (by kernel_rfl) rfl)) rfl rfl rfl (szSmall_any s.1 s.2 _) ?_
  rintro en w6 ⟨rfl, hb6⟩
  refine ⟨_, rfl, ?_⟩
  replace bel := bel.step hb6
  replace k1 := k1.step hb6
  refine Seq.val (Runs.move rfl rfl) rfl rfl rfl ?_
  refine SeqC.start ?_
  refine SeqC.open rfl rfl rfl rfl rfl rfl rfl (fun hcx => Runs.loadW rfl rfl Try.underlying57 rfl k1 (m := 4) (by kernel_rfl) rfl) ?_
  refine SeqC.nextC rfl rfl rfl rfl rfl rfl rfl (fun hcx => Enters.func rfl rfl rfl (run_enter Try.func69 (by kernel_rfl) rfl)) (fun hcx => hbt _ bel) ?_
  intro w2 hw2
  replace bel := bel.step hw2
  replace k1 := k1.step hw2
  refine SeqC.and rfl rfl rfl rfl rfl rfl rfl ?_
  refine Seq.val (Runs.assign rfl rfl) rfl rfl rfl ?_
  refine Seq.nil ?_
  refine Post.weak (F' := [(0, _), (1, _), (2, _)]) ⟨rfl, rfl, rfl, trivial⟩ ?_
  refine Post.then_ ?_
  refine Cd.ret ?_
  refine Post.end1 rfl rfl (.inl rfl) ?_
  exact ⟨ret1 (bool_eq (by cases (decide (s.1 ≤ 200) && decide (s.2 ≤ 16)) <;> rfl)), bel⟩
end Go.Proofs.Ytijaldpmpjapiaa

namespace Go.Proofs.Ytijaldpmpjapiaa
open Go.RowKit

theorem builtT_false {t : Tm} (h : ¬ (headTB t.op t.name t.exprs.length t.terms.length = true ∧ (∀ x ∈ t.exprs, builtB x = true) ∧ ∀ x ∈ t.terms, builtT x = true)) : builtT t = false := by
  cases hq : builtT t with
  | false => rfl
  | true =>
    rw [builtT_eq, Bool.and_eq_true, Bool.and_eq_true, List.all_eq_true, List.all_eq_true] at hq
    exact absurd ⟨hq.1.1, hq.1.2, hq.2⟩ h
theorem builtT_true {t : Tm} (h : headTB t.op t.name t.exprs.length t.terms.length = true) (h2 : ∀ x ∈ t.exprs, builtB x = true) (h3 : ∀ x ∈ t.terms, builtT x = true) : builtT t = true := by
  rw [builtT_eq, h, List.all_eq_true.2 h2, List.all_eq_true.2 h3]; rfl
theorem headTB_iff (op : Int) (nm : List Nat) (n m : Nat) : headTB op nm n m = true ↔ arT op = ((n : Int), (m : Int)) ∧ (op = 2 → freeB nm = true) ∧ (op ≠ 2 → nm = []) := by
  unfold headTB
  simp
  constructor
  · rintro ⟨⟨a, b⟩, c⟩
    refine ⟨a, fun h => ?_, fun h => ?_⟩
    · rcases b with b | b
      · exact absurd h b
      · exact b
    · rcases c with c | c
      · exact absurd c h
      · exact c
  · rintro ⟨a, b, c⟩
    refine ⟨⟨a, ?_⟩, ?_⟩
    · by_cases h2 : op = 2
      · exact .inr (b h2)
      · exact .inl h2
    · by_cases h2 : op = 2
      · exact .inl h2
      · exact .inr (c h2)
theorem arT_op {op : Int} {n m : Nat} (h : arT op = ((n : Int), (m : Int))) : 1 ≤ op ∧ op ≤ 9 ∧ n ≤ 1 ∧ m ≤ 2 := by
  unfold arT at h
  repeat' split at h
  all_goals (have h1 := congrArg Prod.fst h; have h2 := congrArg Prod.snd h; simp only at h1 h2; omega)
theorem refTBuilt_any (N : Nat) : ∀ (t : Tm) (B : Nat) (v : Value) (w : World), t.nodes ≤ N → RepB w B t v → B ≤ w.heap.size → Calls Try.prog 62 #[v] w fun en w' => en = .returned (.bool (builtT t)) ∧ Grow w w' := by
  induction N with
  | zero => intro t B v w hN; have := t.nodes_pos; omega
  | succ N ih =>
  intro t B v w hN hrep hB
  obtain ⟨A, c, A', c', rfl, hv⟩ := hrep.open
  have bel := Below.refl w.heap.size w
  have hnm := hv.name
  have hnl := hv.nlen
  have h60 := hv.h60
  have h60' := hv.h60'
  refine Calls.start 96 Try.func62 rfl rfl rfl ?_
  refine Cd.seq ?_
  refine Cd.region ?_
  refine Seq.box rfl rfl rfl rfl rfl ?_
  intro g1 w1 n1
  have e1 := Nat.le_trans bel.size n1.ge
  replace bel := bel.step n1.below
  have k1 := n1.blk
  refine Seq.val (Runs.assign rfl rfl) rfl rfl rfl ?_
  refine Seq.nil ?_
  refine Post.weak (F' := [(0, _), (1, _), (2, _)]) ⟨rfl, rfl, rfl, trivial⟩ ?_
  refine Post.then_ ?_
  refine Cd.seq ?_
  refine Cd.region ?_
  refine Seq.val (Runs.assign rfl rfl) rfl rfl rfl ?_
  refine Seq.val (Runs.assign rfl rfl) rfl rfl rfl ?_
  refine Seq.nil ?_
  refine Post.weak (F' := [(0, _), (1, _), (2, _), (3, _), (4, _)]) ⟨rfl, rfl, rfl, rfl, rfl, trivial⟩ ?_
  refine Post.then_ ?_
  refine Cd.seqJ (σ := Nat × Nat) (fun s => [(1, .pointer (some ⟨g1, 0, none⟩)), (3, .int .i64 (s.1 : Int)), (4, .int .i64 (s.2 : Int))]) (fun s wr => (1 ≤ t.op → t.op ≤ 9 → arT t.op = ((s.1 : Int), (s.2 : Int))) ∧ s.1 ≤ 1 ∧ s.2 ≤ 2 ∧ Below w.heap.size w wr ∧ Blk wr g1 57 #[.int .i64 t.op, .string (strOf t.name), .slice A t.exprs.length c, .slice A' t.terms.length c']) ?_ ?_
  · skip
    refine Cd.block ?_
    refine Cd.seq ?_
    refine Cd.region ?_
    refine Seq.val (Runs.fieldB 0 rfl rfl Try.underlying57 rfl (by kernel_rfl)) rfl rfl rfl ?_
    refine Seq.val (Runs.loadB rfl rfl Try.underlying3 rfl k1 rfl) rfl rfl rfl ?_
    refine Seq.val (Runs.eqlI rfl rfl rfl) rfl rfl rfl ?_
    refine Seq.val (Runs.assign rfl rfl) rfl rfl rfl ?_
    refine Seq.nil ?_
    refine Post.weak (F' := [(0, _), (1, _), (2, _), (3, _), (4, _), (7, _)]) ⟨rfl, rfl, rfl, rfl, rfl, rfl, trivial⟩ ?_
    refine Post.then_ ?_
    refine Cd.condD rfl (fun h1 => ?_) (fun h1 => ?_)
    · skip
      refine Cd.region ?_
      refine Seq.val (Runs.assign rfl rfl) rfl rfl rfl ?_
      refine Seq.nil ?_
      refine Post.weak (F' := [(0, _), (1, _), (2, _), (3, _), (4, _), (7, _)]) ⟨rfl, rfl, rfl, rfl, rfl, rfl, trivial⟩ ?_
      refine Post.block_normal ?_
      exact Post.join (0, 1) ⟨rfl, rfl, rfl, trivial⟩ ⟨fun _ _ => by unfold arT; rw [if_neg (by omega), if_pos h1]; rfl, by decide, by decide, bel, k1⟩
    · skip
      refine Cd.seq ?_
      refine Cd.region ?_
      refine Seq.val (Runs.fieldB 0 rfl rfl Try.underlying57 rfl (by kernel_rfl)) rfl rfl rfl ?_
      refine Seq.val (Runs.loadB rfl rfl Try.underlying3 rfl k1 rfl) rfl rfl rfl ?_
      refine Seq.val (Runs.eqlI rfl rfl rfl) rfl rfl rfl ?_
      refine Seq.val (Runs.move rfl rfl) rfl rfl rfl ?_
      refine SeqC.start ?_
      refine SeqC.open rfl rfl rfl rfl rfl rfl rfl (fun hcx => Runs.fieldB 0 rfl rfl Try.underlying57 rfl (by kernel_rfl)) ?_
      refine SeqC.next rfl rfl rfl rfl rfl rfl rfl (fun hcx => Runs.loadB rfl rfl Try.underlying3 rfl k1 rfl) ?_
      refine SeqC.next rfl rfl rfl rfl rfl rfl rfl (fun hcx => Runs.eqlI rfl rfl rfl) ?_
      refine SeqC.or rfl rfl rfl rfl rfl rfl rfl ?_
      refine Seq.val (Runs.assign rfl rfl) rfl rfl rfl ?_
      refine Seq.nil ?_
      refine Post.weak (F' := [(0, _), (1, _), (2, _), (3, _), (4, _), (7, _), (11, _)]) ⟨rfl, rfl, rfl, rfl, rfl, rfl, rfl, trivial⟩ ?_
      refine Post.then_ ?_
      refine Cd.cond rfl (fun h2 => ?_) (fun h2 => ?_)
      · simp at h2
        refine Cd.region ?_
        refine Seq.val (Runs.assign rfl rfl) rfl rfl rfl ?_
        refine Seq.nil ?_
        refine Post.weak (F' := [(0, _), (1, _), (2, _), (3, _), (4, _), (7, _), (11, _)]) ⟨rfl, rfl, rfl, rfl, rfl, rfl, rfl, trivial⟩ ?_
        refine Post.block_normal ?_
        exact Post.join (0, 2) ⟨rfl, rfl, rfl, trivial⟩ ⟨fun _ _ => by unfold arT; rw [if_neg (by omega), if_neg (by omega), if_pos h2]; rfl, by decide, by decide, bel, k1⟩
      · simp at h2
        refine Cd.seq ?_
        refine Cd.region ?_
        refine Seq.val (Runs.fieldB 0 rfl rfl Try.underlying57 rfl (by kernel_rfl)) rfl rfl rfl ?_
        refine Seq.val (Runs.loadB rfl rfl Try.underlying3 rfl k1 rfl) rfl rfl rfl ?_
        refine Seq.val (Runs.geq rfl rfl rfl) rfl rfl rfl ?_
        refine Seq.val (Runs.move rfl rfl) rfl rfl rfl ?_
        refine SeqC.start ?_
        refine SeqC.open rfl rfl rfl rfl rfl rfl rfl (fun hcx => Runs.fieldB 0 rfl rfl Try.underlying57 rfl (by kernel_rfl)) ?_
        refine SeqC.next rfl rfl rfl rfl rfl rfl rfl (fun hcx => Runs.loadB rfl rfl Try.underlying3 rfl k1 rfl) ?_
        refine SeqC.next rfl rfl rfl rfl rfl rfl rfl (fun hcx => Runs.leq rfl rfl rfl) ?_
        refine SeqC.and rfl rfl rfl rfl rfl rfl rfl ?_
        refine Seq.val (Runs.assign rfl rfl) rfl rfl rfl ?_
        refine Seq.nil ?_
        refine Post.weak (F' := [(0, _), (1, _), (2, _), (3, _), (4, _), (7, _), (11, _), (20, _)]) ⟨rfl, rfl, rfl, rfl, rfl, rfl, rfl, rfl, trivial⟩ ?_
        refine Post.then_ ?_
        refine Cd.cond rfl (fun h3 => ?_) (fun h3 => ?_)
        · simp at h3
          refine Cd.seq ?_
          refine Cd.region ?_
          refine Seq.val (Runs.assign rfl rfl) rfl rfl rfl ?_
          refine Seq.nil ?_
          refine Post.weak (F' := [(0, _), (1, _), (2, _), (3, _), (4, _), (7, _), (11, _), (20, _)]) ⟨rfl, rfl, rfl, rfl, rfl, rfl, rfl, rfl, trivial⟩ ?_
          refine Post.then_ ?_
          refine Cd.region ?_
          refine Seq.val (Runs.assign rfl rfl) rfl rfl rfl ?_
          refine Seq.nil ?_
          refine Post.weak (F' := [(0, _), (1, _), (2, _), (3, _), (4, _), (7, _), (11, _), (20, _)]) ⟨rfl, rfl, rfl, rfl, rfl, rfl, rfl, rfl, trivial⟩ ?_
          refine Post.block_normal ?_
          exact Post.join (1, 1) ⟨rfl, rfl, rfl, trivial⟩ ⟨fun _ _ => by unfold arT; rw [if_neg (by omega), if_neg (by omega), if_neg (by omega), if_pos (by omega)]; rfl, by decide, by decide, bel, k1⟩
        · simp at h3
          refine Cd.skip ?_
          refine Post.block_normal ?_
          exact Post.join (0, 0) ⟨rfl, rfl, rfl, trivial⟩ ⟨fun _ _ => by unfold arT; rw [if_pos (by omega)]; rfl, by decide, by decide, bel, k1⟩
  clear bel k1
  rintro ⟨n, m⟩ wj ⟨har, hn1, hm2, bel, k1⟩
  dsimp only at har hn1 hm2 ⊢
  refine Cd.seq ?_
  refine Cd.seq ?_
  refine Cd.region ?_
  refine Seq.val (Runs.fieldB 0 rfl rfl Try.underlying57 rfl (by kernel_rfl)) rfl rfl rfl ?_
  refine Seq.val (Runs.loadB rfl rfl Try.underlying3 rfl k1 rfl) rfl rfl rfl ?_
  refine Seq.val (Runs.lss rfl rfl rfl) rfl rfl rfl ?_
  refine Seq.val (Runs.move rfl rfl) rfl rfl rfl ?_
  refine SeqC.start ?_
  refine SeqC.open rfl rfl rfl rfl rfl rfl rfl (fun hcx => Runs.fieldB 0 rfl rfl Try.underlying57 rfl (by kernel_rfl)) ?_
  refine SeqC.next rfl rfl rfl rfl rfl rfl rfl (fun hcx => Runs.loadB rfl rfl Try.underlying3 rfl k1 rfl) ?_
  refine SeqC.next rfl rfl rfl rfl rfl rfl rfl (fun hcx => Runs.gtr rfl rfl rfl) ?_
  refine SeqC.or rfl rfl rfl rfl rfl rfl rfl ?_
  refine Seq.val (Runs.move rfl rfl) rfl rfl rfl ?_
  refine SeqC.start ?_
  refine SeqC.open rfl rfl rfl rfl rfl rfl rfl (fun hcx => Runs.fieldB 2 rfl rfl Try.underlying57 rfl (by kernel_rfl)) ?_
  refine SeqC.next rfl rfl rfl rfl rfl rfl rfl (fun hcx => Runs.loadB rfl rfl Try.underlying25 rfl k1 rfl) ?_
  refine SeqC.next rfl rfl rfl rfl rfl rfl rfl (fun hcx => Runs.len rfl rfl Try.underlying25) ?_
  refine SeqC.next rfl rfl rfl rfl rfl rfl rfl (fun hcx => Runs.move rfl rfl) ?_
  refine SeqC.next rfl rfl rfl rfl rfl rfl rfl (fun hcx => Runs.neqI rfl rfl rfl) ?_
  refine SeqC.or rfl rfl rfl rfl rfl rfl rfl ?_
  refine Seq.val (Runs.move rfl rfl) rfl rfl rfl ?_
  refine SeqC.start ?_
  refine SeqC.open rfl rfl rfl rfl rfl rfl rfl (fun hcx => Runs.fieldB 3 rfl rfl Try.underlying57 rfl (by kernel_rfl)) ?_
  refine SeqC.next rfl rfl rfl rfl rfl rfl rfl (fun hcx => Runs.loadB rfl rfl Try.underlying27 rfl k1 rfl) ?_
  refine SeqC.next rfl rfl rfl rfl rfl rfl rfl (fun hcx => Runs.len rfl rfl Try.underlying27) ?_
  refine SeqC.next rfl rfl rfl rfl rfl rfl rfl (fun hcx => Runs.move rfl rfl) ?_
  refine SeqC.next rfl rfl rfl rfl rfl rfl rfl (fun hcx => Runs.neqI rfl rfl rfl) ?_
  refine SeqC.or rfl rfl rfl rfl rfl rfl rfl ?_
  refine Seq.val (Runs.move rfl rfl) rfl rfl rfl ?_
  refine SeqC.start ?_
  refine SeqC.open rfl rfl rfl rfl rfl rfl rfl (fun hcx => Runs.fieldB 0 rfl rfl Try.underlying57 rfl (by kernel_rfl)) ?_
  refine SeqC.next rfl rfl rfl rfl rfl rfl rfl (fun hcx => Runs.loadB rfl rfl Try.underlying3 rfl k1 rfl) ?_
  refine SeqC.next rfl rfl rfl rfl rfl rfl rfl (fun hcx => Runs.eqlI rfl rfl rfl) ?_
  refine SeqC.next rfl rfl rfl rfl rfl rfl rfl (fun hcx => Runs.move rfl rfl) ?_
  refine SeqC.open rfl rfl rfl rfl rfl rfl rfl (fun hcx => Runs.fieldB 1 rfl rfl Try.underlying57 rfl (by kernel_rfl)) ?_
  refine SeqC.next rfl rfl rfl rfl rfl rfl rfl (fun hcx => Runs.loadB rfl rfl Try.underlying9 rfl k1 rfl) ?_
  refine SeqC.nextC rfl rfl rfl rfl rfl rfl rfl (fun hcx => Enters.func rfl rfl rfl (run_enter Try.func85 (by kernel_rfl) rfl)) (fun hcx => refFree_any t.name _ hnm hnl) ?_
  intro w2 hw2
  replace bel := bel.step hw2
  replace k1 := k1.step hw2
  refine SeqC.next rfl rfl rfl rfl rfl rfl rfl (fun hcx => Runs.not rfl rfl) ?_
  refine SeqC.andG rfl rfl rfl rfl rfl rfl rfl rfl rfl rfl rfl ?_
  refine SeqC.or rfl rfl rfl rfl rfl rfl rfl ?_
  refine Seq.val (Runs.move rfl rfl) rfl rfl rfl ?_
  refine SeqC.start ?_
  refine SeqC.open rfl rfl rfl rfl rfl rfl rfl (fun hcx => Runs.fieldB 0 rfl rfl Try.underlying57 rfl (by kernel_rfl)) ?_
  refine SeqC.next rfl rfl rfl rfl rfl rfl rfl (fun hcx => Runs.loadB rfl rfl Try.underlying3 rfl k1 rfl) ?_
  refine SeqC.next rfl rfl rfl rfl rfl rfl rfl (fun hcx => Runs.neqI rfl rfl rfl) ?_
  refine SeqC.next rfl rfl rfl rfl rfl rfl rfl (fun hcx => Runs.move rfl rfl) ?_
  refine SeqC.open rfl rfl rfl rfl rfl rfl rfl (fun hcx => Runs.fieldB 1 rfl rfl Try.underlying57 rfl (by kernel_rfl)) ?_
  refine SeqC.next rfl rfl rfl rfl rfl rfl rfl (fun hcx => Runs.loadB rfl rfl Try.underlying9 rfl k1 rfl) ?_
  refine SeqC.next rfl rfl rfl rfl rfl rfl rfl (fun hcx => Runs.neqL (a := t.name) (b := []) rfl rfl rfl hnm (by decide)) ?_
  refine SeqC.andG rfl rfl rfl rfl rfl rfl rfl rfl rfl rfl rfl ?_
  refine SeqC.or rfl rfl rfl rfl rfl rfl rfl ?_
  refine Seq.nil ?_
  refine Post.weak (F' := [(1, _), (3, _), (4, _), (71, _)]) ⟨rfl, rfl, rfl, rfl, trivial⟩ ?_
  refine Post.then_ ?_
  refine Cd.cond rfl (fun h => ?_) (fun h => ?_)
  · have hf : builtT t = false := builtT_false fun ⟨hh, _, _⟩ => by
      rw [headTB_iff] at hh
      obtain ⟨a, b, c⟩ := hh
      have hop := arT_op a
      rw [har hop.1 hop.2.1] at a
      have a1 := congrArg Prod.fst a
      have a2 := congrArg Prod.snd a
      simp at h a1 a2
      rcases h with (((h | h) | h) | ⟨h, h'⟩) | ⟨h, h'⟩
      · omega
      · omega
      · omega
      · rw [b h] at h'; cases h'
      · exact h' (c h)
    refine Cd.seq ?_
    refine Cd.region ?_
    refine Seq.val (Runs.assign rfl rfl) rfl rfl rfl ?_
    refine Seq.nil ?_
    refine Post.weak (F' := [(1, _), (2, _), (3, _), (4, _), (71, _)]) ⟨rfl, rfl, rfl, rfl, rfl, trivial⟩ ?_
    refine Post.then_ ?_
    refine Cd.ret ?_
    refine Post.then_ret ?_
    refine Post.end1 rfl rfl (.inl rfl) ?_
    rw [hf]
    exact ⟨rfl, bel⟩
  simp at h
  obtain ⟨⟨⟨⟨⟨ha, hb⟩, hc⟩, hd⟩, he⟩, hf⟩ := h
  have hcn : t.exprs.length = n := by omega
  have hdm : t.terms.length = m := by omega
  have hhead : headTB t.op t.name t.exprs.length t.terms.length = true := by
    rw [headTB_iff, hcn, hdm]
    exact ⟨har (by omega) (by omega), fun h => by simpa using he h, fun h => by simpa using hf h⟩
  refine Cd.skip ?_
  refine Post.then_ ?_
  refine Cd.seq ?_
  refine Cd.seq ?_
  refine Cd.region ?_
  refine Seq.val (Runs.assign rfl rfl) rfl rfl rfl ?_
  refine Seq.nil ?_
  refine Post.weak (F' := [(1, _), (3, _), (4, _), (5, _), (71, _)]) ⟨rfl, rfl, rfl, rfl, rfl, trivial⟩ ?_
  refine Post.then_ ?_
  refine Cd.block ?_
  refine Cd.loop (σ := Nat) (fun k => [(1, .pointer (some ⟨g1, 0, none⟩)), (3, .int .i64 (n : Int)), (4, .int .i64 (m : Int)), (5, .int .i64 (k : Int))])
    (fun k wr => k ≤ n ∧ (∀ y ∈ t.exprs.take k, builtB y = true) ∧ Below w.heap.size w wr ∧ Blk wr g1 57 #[.int .i64 t.op, .string (strOf t.name), .slice A t.exprs.length c, .slice A' t.terms.length c']) (fun k => n - k) 0 ⟨Nat.zero_le _, by simp, bel, k1⟩ ⟨rfl, rfl, rfl, rfl, trivial⟩ ?_
  clear bel k1
  rintro k wr ⟨hk, hall, bel, k1⟩
  refine Cd.seq ?_
  refine Cd.seq ?_
  refine Cd.region ?_
  refine Seq.val (Runs.move rfl rfl) rfl rfl rfl ?_
  refine Seq.val (Runs.move rfl rfl) rfl rfl rfl ?_
  refine Seq.val (Runs.lss rfl rfl rfl) rfl rfl rfl ?_
  refine Seq.nil ?_
  refine Post.weak (F' := [(1, _), (3, _), (4, _), (5, _), (74, _)]) ⟨rfl, rfl, rfl, rfl, rfl, trivial⟩ ?_
  refine Post.then_ ?_
  refine Cd.condD rfl (fun hc => ?_) (fun hc => ?_)
  · obtain ⟨x, hx⟩ : ∃ x, t.exprs[k]? = some x := ⟨_, List.getElem?_eq_getElem (by omega)⟩
    obtain ⟨ad, Ax, cx, rfl, hbl, hrx, hc2⟩ := hv.expr k x hx
    have hxm := List.mem_of_getElem? hx
    have hc2 := fun j u hj => ((bel.mono hB).cell (p := (ad.add (k * 4)).add j) (by rw [block_of_add, block_of_add]; exact hbl)).trans (hc2 j u hj)
    have htk : t.exprs.take (k + 1) = t.exprs.take k ++ [x] := by rw [List.take_add_one, hx]; rfl
    have hrec := fun W (hb : Below w.heap.size w W) => refBuilt_any x.nodes x B _ W (Nat.le_refl _) (hrx.below (hb.mono hB)) (Nat.le_trans hB hb.size)
    refine Cd.skip ?_
    refine Post.then_ ?_
    refine Cd.seq ?_
    refine Cd.block ?_
    refine Cd.seq ?_
    refine Cd.region ?_
    refine Seq.val (Runs.fieldB 2 rfl rfl Try.underlying57 rfl (by kernel_rfl)) rfl rfl rfl ?_
    refine Seq.val (Runs.loadB rfl rfl Try.underlying25 rfl k1 rfl) rfl rfl rfl ?_
    refine Seq.val (Runs.move rfl rfl) rfl rfl rfl ?_
    refine Seq.val (Runs.indexN rfl rfl rfl Try.underlying25 (s := 4) (by kernel_rfl) (j := k) rfl (by omega)) rfl rfl rfl ?_
    refine Seq.val (Runs.loadF (ps := [.int .i64 x.op, .int .i64 x.n, .string (strOf x.name), .slice Ax x.args.length cx]) rfl rfl Try.underlying35 rfl (m := 4) (by kernel_rfl) rfl hc2) rfl rfl rfl ?_
    refine Seq.call (Enters.func rfl rfl rfl (run_enter Try.func44 (by kernel_rfl) rfl)) rfl rfl rfl (hrec _ bel) ?_
    rintro en w5 ⟨rfl, hb5⟩
    refine ⟨_, rfl, ?_⟩
    replace bel := bel.step hb5
    replace k1 := k1.step hb5
    refine Seq.val (Runs.not rfl rfl) rfl rfl rfl ?_
    refine Seq.nil ?_
    refine Post.weak (F' := [(1, _), (3, _), (4, _), (5, _), (74, _), (83, _)]) ⟨rfl, rfl, rfl, rfl, rfl, rfl, trivial⟩ ?_
    refine Post.then_ ?_
    refine Cd.cond rfl (fun hq => ?_) (fun hq => ?_)
    · have hf : builtT t = false := builtT_false fun ⟨_, h2, _⟩ => by rw [h2 x hxm] at hq; cases hq
      refine Cd.seq ?_
      refine Cd.region ?_
      refine Seq.val (Runs.assign rfl rfl) rfl rfl rfl ?_
      refine Seq.nil ?_
      refine Post.weak (F' := [(1, _), (2, _), (3, _), (4, _), (5, _), (74, _), (83, _)]) ⟨rfl, rfl, rfl, rfl, rfl, rfl, rfl, trivial⟩ ?_
      refine Post.then_ ?_
      refine Cd.ret ?_
      refine Post.block_ret ?_
      refine Post.then_ret ?_
      refine Post.round_ret ?_
      refine Post.block_ret ?_
      refine Post.then_ret ?_
      refine Post.end1 rfl rfl (.inl rfl) ?_
      rw [hf]
      exact ⟨rfl, bel⟩
    · have hq2 : builtB x = true := by simpa using hq
      refine Cd.skip ?_
      refine Post.block_normal ?_
      refine Post.then_ ?_
      refine Cd.region ?_
      refine Seq.val (Runs.move rfl rfl) rfl rfl rfl ?_
      refine Seq.val (Runs.addI rfl rfl rfl (by omega) (by omega)) rfl rfl rfl ?_
      refine Seq.val (Runs.assign rfl rfl) rfl rfl rfl ?_
      refine Seq.nil ?_
      refine Post.weak (F' := [(1, _), (3, _), (4, _), (5, _), (74, _), (83, _)]) ⟨rfl, rfl, rfl, rfl, rfl, rfl, trivial⟩ ?_
      refine Post.round (k + 1) ⟨rfl, rfl, rfl, rfl, trivial⟩ ⟨by omega, fun y hy => ?_, bel, k1⟩ (by omega)
      rw [htk] at hy
      rcases List.mem_append.1 hy with hy | hy
      · exact hall y hy
      · obtain rfl := List.mem_singleton.1 hy; exact hq2
  have hallE : ∀ x ∈ t.exprs, builtB x = true := by
    rw [List.take_of_length_le (by omega)] at hall
    exact hall
  refine Cd.exit ?_
  refine Post.then_exit ?_
  refine Post.round_exit ?_
  refine Post.block_exit ?_
  refine Post.then_ ?_
  refine Cd.seq ?_
  refine Cd.seq ?_
  refine Cd.region ?_
  refine Seq.val (Runs.assign rfl rfl) rfl rfl rfl ?_
  refine Seq.nil ?_
  refine Post.weak (F' := [(1, _), (3, _), (4, _), (5, _), (6, _), (74, _)]) ⟨rfl, rfl, rfl, rfl, rfl, rfl, trivial⟩ ?_
  refine Post.then_ ?_
  refine Cd.block ?_
  refine Cd.loop (σ := Nat) (fun k => [(1, .pointer (some ⟨g1, 0, none⟩)), (4, .int .i64 (m : Int)), (6, .int .i64 (k : Int))])
    (fun k wr => k ≤ m ∧ (∀ y ∈ t.terms.take k, builtT y = true) ∧ Below w.heap.size w wr ∧ Blk wr g1 57 #[.int .i64 t.op, .string (strOf t.name), .slice A t.exprs.length c, .slice A' t.terms.length c']) (fun k => m - k) 0 ⟨Nat.zero_le _, by simp, bel, k1⟩ ⟨rfl, rfl, rfl, trivial⟩ ?_
  clear bel k1
  clear hall
  rintro k wr ⟨hk, hall, bel, k1⟩
  refine Cd.seq ?_
  refine Cd.seq ?_
  refine Cd.region ?_
  refine Seq.val (Runs.move rfl rfl) rfl rfl rfl ?_
  refine Seq.val (Runs.move rfl rfl) rfl rfl rfl ?_
  refine Seq.val (Runs.lss rfl rfl rfl) rfl rfl rfl ?_
  refine Seq.nil ?_
  refine Post.weak (F' := [(1, _), (4, _), (6, _), (86, _)]) ⟨rfl, rfl, rfl, rfl, trivial⟩ ?_
  refine Post.then_ ?_
  refine Cd.condD rfl (fun hc => ?_) (fun hc => ?_)
  · obtain ⟨x, hx⟩ : ∃ x, t.terms[k]? = some x := ⟨_, List.getElem?_eq_getElem (by omega)⟩
    obtain ⟨ad, A1, A2, c1, c2, rfl, hbl, hrx, hc2⟩ := hv.term k x hx
    have hxm := List.mem_of_getElem? hx
    have hxn := Tm.term_nodes hxm
    have hc2 := fun j u hj => ((bel.mono hB).cell (p := (ad.add (k * 4)).add j) (by rw [block_of_add, block_of_add]; exact hbl)).trans (hc2 j u hj)
    have htk : t.terms.take (k + 1) = t.terms.take k ++ [x] := by rw [List.take_add_one, hx]; rfl
    have hrec := fun W (hb : Below w.heap.size w W) => ih x B _ W (by omega) (hrx.below (hb.mono hB)) (Nat.le_trans hB hb.size)
    refine Cd.skip ?_
    refine Post.then_ ?_
    refine Cd.seq ?_
    refine Cd.block ?_
    refine Cd.seq ?_
    refine Cd.region ?_
    refine Seq.val (Runs.fieldB 3 rfl rfl Try.underlying57 rfl (by kernel_rfl)) rfl rfl rfl ?_
    refine Seq.val (Runs.loadB rfl rfl Try.underlying27 rfl k1 rfl) rfl rfl rfl ?_
    refine Seq.val (Runs.move rfl rfl) rfl rfl rfl ?_
    refine Seq.val (Runs.indexN rfl rfl rfl Try.underlying27 (s := 4) (by kernel_rfl) (j := k) rfl (by omega)) rfl rfl rfl ?_
    refine Seq.val (Runs.loadF (ps := [.int .i64 x.op, .string (strOf x.name), .slice A1 x.exprs.length c1, .slice A2 x.terms.length c2]) rfl rfl Try.underlying57 rfl (m := 4) (by kernel_rfl) rfl hc2) rfl rfl rfl ?_
    refine Seq.call (Enters.func rfl rfl rfl (run_enter Try.func62 (by kernel_rfl) rfl)) rfl rfl rfl (hrec _ bel) ?_
    rintro en w5 ⟨rfl, hb5⟩
    refine ⟨_, rfl, ?_⟩
    replace bel := bel.step hb5
    replace k1 := k1.step hb5
    refine Seq.val (Runs.not rfl rfl) rfl rfl rfl ?_
    refine Seq.nil ?_
    refine Post.weak (F' := [(1, _), (4, _), (6, _), (86, _), (95, _)]) ⟨rfl, rfl, rfl, rfl, rfl, trivial⟩ ?_
    refine Post.then_ ?_
    refine Cd.cond rfl (fun hq => ?_) (fun hq => ?_)
    · have hf : builtT t = false := builtT_false fun ⟨_, _, h2⟩ => by rw [h2 x hxm] at hq; cases hq
      refine Cd.seq ?_
      refine Cd.region ?_
      refine Seq.val (Runs.assign rfl rfl) rfl rfl rfl ?_
      refine Seq.nil ?_
      refine Post.weak (F' := [(1, _), (2, _), (4, _), (6, _), (86, _), (95, _)]) ⟨rfl, rfl, rfl, rfl, rfl, rfl, trivial⟩ ?_
      refine Post.then_ ?_
      refine Cd.ret ?_
      refine Post.block_ret ?_
      refine Post.then_ret ?_
      refine Post.round_ret ?_
      refine Post.block_ret ?_
      refine Post.then_ret ?_
      refine Post.end1 rfl rfl (.inl rfl) ?_
      rw [hf]
      exact ⟨rfl, bel⟩
    · have hq2 : builtT x = true := by simpa using hq
      refine Cd.skip ?_
      refine Post.block_normal ?_
      refine Post.then_ ?_
      refine Cd.region ?_
      refine Seq.val (Runs.move rfl rfl) rfl rfl rfl ?_
      refine Seq.val (Runs.addI rfl rfl rfl (by omega) (by omega)) rfl rfl rfl ?_
      refine Seq.val (Runs.assign rfl rfl) rfl rfl rfl ?_
      refine Seq.nil ?_
      refine Post.weak (F' := [(1, _), (4, _), (6, _), (86, _), (95, _)]) ⟨rfl, rfl, rfl, rfl, rfl, trivial⟩ ?_
      refine Post.round (k + 1) ⟨rfl, rfl, rfl, trivial⟩ ⟨by omega, fun y hy => ?_, bel, k1⟩ (by omega)
      rw [htk] at hy
      rcases List.mem_append.1 hy with hy | hy
      · exact hall y hy
      · obtain rfl := List.mem_singleton.1 hy; exact hq2
  · have hallT : ∀ x ∈ t.terms, builtT x = true := by
      rw [List.take_of_length_le (by omega)] at hall
      exact hall
    refine Cd.exit ?_
    refine Post.then_exit ?_
    refine Post.round_exit ?_
    refine Post.block_exit ?_
    refine Post.then_ ?_
    refine Cd.seq ?_
    refine Cd.region ?_
    refine Seq.val (Runs.assign rfl rfl) rfl rfl rfl ?_
    refine Seq.nil ?_
    refine Post.weak (F' := [(1, _), (2, _), (4, _), (6, _), (86, _)]) ⟨rfl, rfl, rfl, rfl, rfl, trivial⟩ ?_
    refine Post.then_ ?_
    refine Cd.ret ?_
    refine Post.end1 rfl rfl (.inl rfl) ?_
    rw [builtT_true hhead hallE hallT]
    exact ⟨rfl, bel⟩
end Go.Proofs.Ytijaldpmpjapiaa

namespace Go.Proofs.Ytijaldpmpjapiaa
open Go.RowKit

/-- A knot. -/
structure Kn where
  op : Int
  name : List Nat
  exprs : List Int
  terms : List Int
structure Kn.rng (x : Kn) : Prop where
  op : I64 x.op
  name : ∀ d ∈ x.name, d < 256
  nlen : x.name.length ≤ 9223372036854775807
def zMuch (t : Tm) : Int := (toldZ (t.nodes : Int) (t.depth : Int)).1
def zDeep (t : Tm) : Int := (toldZ (t.nodes : Int) (t.depth : Int)).2
def sumM : List Tm → Int
  | [] => 0
  | e :: r => zMuch e + sumM r
def maxM : List Tm → Int
  | [] => 0
  | e :: r => max (zDeep e) (maxM r)
theorem sumM_snoc (l : List Tm) (e : Tm) : sumM (l ++ [e]) = sumM l + zMuch e := by
  induction l with
  | nil => show zMuch e + 0 = 0 + zMuch e; omega
  | cons x r ih => show zMuch x + sumM (r ++ [e]) = zMuch x + sumM r + zMuch e; omega
theorem zT_bounds (e : Tm) : 0 ≤ zMuch e ∧ zMuch e ≤ 1000 ∧ 0 ≤ zDeep e ∧ zDeep e ≤ 1000 := by
  unfold zMuch zDeep toldZ
  split <;> omega
theorem maxM_nonneg (l : List Tm) : 0 ≤ maxM l ∧ maxM l ≤ 1000 := by
  induction l with
  | nil => exact ⟨Int.le_refl _, by decide⟩
  | cons x r ih => have := zT_bounds x; show 0 ≤ max (zDeep x) (maxM r) ∧ max (zDeep x) (maxM r) ≤ 1000; omega
theorem maxM_snoc (l : List Tm) (e : Tm) : maxM (l ++ [e]) = max (maxM l) (zDeep e) := by
  induction l with
  | nil => have := zT_bounds e; show max (zDeep e) 0 = max 0 (zDeep e); omega
  | cons x r ih => show max (zDeep x) (maxM (r ++ [e])) = max (max (zDeep x) (maxM r)) (zDeep e); omega
theorem sumM_bounds (l : List Tm) : 0 ≤ sumM l ∧ sumM l ≤ 1000 * (l.length : Int) := by
  induction l with
  | nil => exact ⟨Int.le_refl _, by decide⟩
  | cons x r ih =>
    have := zT_bounds x
    have h : sumM (x :: r) = zMuch x + sumM r := rfl
    rw [h, List.length_cons]
    omega
theorem sumM_or (l : List Tm) : (sumM l = (nodesM l : Int) ∧ maxM l = (depthM l : Int)) ∨ (1000 ≤ sumM l ∧ 1000 ≤ nodesM l) := by
  induction l with
  | nil => exact .inl ⟨rfl, rfl⟩
  | cons x r ih =>
    have hb := sumM_bounds r
    have hz := zT_bounds x
    have h1 : sumM (x :: r) = zMuch x + sumM r := rfl
    have h2 : maxM (x :: r) = max (zDeep x) (maxM r) := rfl
    have h3 : nodesM (x :: r) = x.nodes + nodesM r := by rw [nodesM]
    have h4 : depthM (x :: r) = max x.depth (depthM r) := by rw [depthM]
    have hd := x.depth_nodes
    rw [h1, h2, h3, h4]
    rcases ih with ⟨e1, e2⟩ | ⟨e1, e2⟩
    · by_cases hbig : 1000 ≤ (x.nodes : Int) ∨ 1000 ≤ (x.depth : Int)
      · have : zMuch x = 1000 := by unfold zMuch toldZ; rw [if_pos hbig]
        right
        omega
      · have g1 : zMuch x = x.nodes := by unfold zMuch toldZ; rw [if_neg hbig]
        have g2 : zDeep x = x.depth := by unfold zDeep toldZ; rw [if_neg hbig]
        left
        omega
    · right; omega
theorem toldT_mk (op : Int) (nm : List Nat) (es : List Ex) (l : List Tm) : toldZ (1 + sumN es + sumM l) (1 + max (maxD es) (maxM l)) = (zMuch (.mk op nm es l), zDeep (.mk op nm es l)) := by
  have hn := Tm.nodes_mk op nm es l
  have hd := Tm.depth_mk op nm es l
  have hdn := depthM_nodesM l
  have hdn2 := depthL_nodesL es
  have hm := maxM_nonneg l
  have hs1 := sumN_bounds es
  have hs2 := sumM_bounds l
  have hm2 := maxD_nonneg es
  unfold zMuch zDeep
  rw [hn, hd]
  rcases sum_or es with ⟨e1, e2⟩ | ⟨e1, e2⟩
  · rcases sumM_or l with ⟨f1, f2⟩ | ⟨f1, f2⟩
    · rw [e1, e2, f1, f2, Int.natCast_add, Int.natCast_add, Int.natCast_add, show ((max (depthL es) (depthM l) : Nat) : Int) = max (depthL es : Int) (depthM l : Int) by omega]; rfl
    · unfold toldZ
      rw [if_pos (by omega), if_pos (by omega)]
  · unfold toldZ
    rw [if_pos (by omega), if_pos (by omega)]
/-- What a knot has within. -/
def pickM (ts : List Tm) (ks : List Int) : List Tm := ks.filterMap fun k => if ts.length = 0 then none else ts[earl k ts.length]?
theorem pickM_none (es : List Tm) (ks : List Int) (k : Int) (h : es.length = 0) : pickM es (ks ++ [k]) = pickM es ks := by
  unfold pickM; rw [List.filterMap_append]; simp [h]
theorem pickM_some (es : List Tm) (ks : List Int) (k : Int) (e : Tm) (h : es[earl k es.length]? = some e) : pickM es (ks ++ [k]) = pickM es ks ++ [e] := by
  unfold pickM
  have h0 : ¬ es.length = 0 := fun h0 => by rw [List.eq_nil_of_length_eq_zero h0] at h; cases h
  rw [List.filterMap_append]
  simp only [h0, if_false]
  rw [List.filterMap_cons, h]
  rfl
theorem pickM_length (es : List Tm) (ks : List Int) : (pickM es ks).length ≤ ks.length := List.length_filterMap_le _ _
theorem pickM_mem {es : List Tm} {ks : List Int} {e : Tm} (h : e ∈ pickM es ks) : e ∈ es := by
  unfold pickM at h
  obtain ⟨k, -, hk⟩ := List.mem_filterMap.1 h
  split at hk
  · cases hk
  · exact List.mem_of_getElem? hk
def knotT (es : List Ex) (ts : List Tm) (x : Kn) : Tm := .mk x.op x.name (pickK es (x.exprs.take 3)) (pickM ts (x.terms.take 4))
def addT (es : List Ex) (ts : List Tm) (x : Kn) : List Tm := ts ++ [knotT es ts x]
/-- The terms of knots. -/
def termsOf (es : List Ex) (ks : List Kn) : List Tm := ks.foldl (addT es) []
theorem termsOf_snoc (es : List Ex) (ks : List Kn) (x : Kn) : termsOf es (ks ++ [x]) = termsOf es ks ++ [knotT es (termsOf es ks) x] := by
  unfold termsOf; rw [List.foldl_append]; rfl
theorem termsOf_length (es : List Ex) (ks : List Kn) : (termsOf es ks).length = ks.length := by
  have : ∀ (r : List Kn) (ts : List Tm), (r.foldl (addT es) ts).length = ts.length + r.length := by
    intro r
    induction r with
    | nil => intro ts; rfl
    | cons x r ih => intro ts; rw [List.foldl_cons, ih]; simp [addT]; omega
  have h := this ks []
  simpa [termsOf] using h
theorem depthM_le {l : List Tm} {m : Nat} (h : ∀ e ∈ l, e.depth ≤ m) : depthM l ≤ m := by
  induction l with
  | nil => exact Nat.zero_le _
  | cons x r ih =>
    rw [depthM]
    have := h x List.mem_cons_self
    have := ih fun e he => h e (List.mem_cons_of_mem _ he)
    omega
theorem termsOf_depth (es : List Ex) (D : Nat) (hD : ∀ e ∈ es, e.depth ≤ D) (ks : List Kn) : ∀ e ∈ termsOf es ks, e.depth ≤ D + ks.length := by
  have key : ∀ (r : List Kn) (ts : List Tm) (m : Nat), D ≤ m → (∀ e ∈ ts, e.depth ≤ m) → ∀ e ∈ r.foldl (addT es) ts, e.depth ≤ m + r.length := by
    intro r
    induction r with
    | nil => intro ts m _ h e he; exact h e he
    | cons x r ih =>
      intro ts m hDm h e he
      rw [List.foldl_cons] at he
      have := ih (addT es ts x) (m + 1) (by omega) (fun e he => by
        rcases List.mem_append.1 he with he | he
        · have := h e he; omega
        · obtain rfl := List.mem_singleton.1 he
          have h1 := depthM_le (fun e he => h e (pickM_mem he) : ∀ e ∈ pickM ts (x.terms.take 4), e.depth ≤ m)
          have h2 := depthL_le (fun e he => Nat.le_trans (hD e (pickK_mem he)) hDm : ∀ e ∈ pickK es (x.exprs.take 3), e.depth ≤ m)
          unfold knotT
          rw [Tm.depth_mk]; omega) e he
      rw [List.length_cons]; omega
  intro e he
  exact key ks [] D (Nat.le_refl _) (by simp) e he
/-- Knots that lie in memory. -/
def KnAt (w : World) (B : Nat) (A : Option Addr) (xs : List Kn) : Prop := ∀ i x, xs[i]? = some x → ∃ ad A1 A2 c1 c2, A = some ad ∧ ad.block < B ∧ Reads w B 1 A1 x.exprs.length (DI x.exprs) ∧ Reads w B 1 A2 x.terms.length (DI x.terms) ∧ ∀ (j : Nat) (u : Value), ([.int .i64 x.op, .string (strOf x.name), .slice A1 x.exprs.length c1, .slice A2 x.terms.length c2] : List Value)[j]? = some u → w.cell? ((ad.add (i * 4)).add j) = some u
theorem KnAt.below {w w' : World} {B : Nat} {A : Option Addr} {xs : List Kn} (h : KnAt w B A xs) (hb : Below B w w') : KnAt w' B A xs := fun i x hx => by
  obtain ⟨ad, A1, A2, c1, c2, e1, e2, e3, e3', e4⟩ := h i x hx
  exact ⟨ad, A1, A2, c1, c2, e1, e2, e3.below hb, e3'.below hb, fun j u hu => (hb.cell (by rw [block_of_add, block_of_add]; exact e2)).trans (e4 j u hu)⟩
/-- Terms that are made, in blocks of a list. -/
structure ForestT (w : World) (T : List Nat) (ts : List Tm) (vs : List Value) : Prop where
  len : vs.length = ts.length
  lt : ∀ b ∈ T, b < w.heap.size
  rep : ∀ (i : Nat) (e : Tm) (v : Value), ts[i]? = some e → vs[i]? = some v → RepT w (· ∈ T) e v
section
variable {w w' : World} {T : List Nat} {ts : List Tm} {vs : List Value}
theorem ForestT.keep (h : ForestT w T ts vs) (hs : w.heap.size ≤ w'.heap.size) (hb : ∀ b ∈ T, w'.heap[b]? = w.heap[b]?) : ForestT w' T ts vs :=
  ⟨h.len, fun b hm => Nat.lt_of_lt_of_le (h.lt b hm) hs, fun i e v he hv => (h.rep i e v he hv).mono (fun _ h => h) (fun p hp => World.cell?_of_block (hb p.block hp))⟩
theorem ForestT.step (h : ForestT w T ts vs) (hb : Below w.heap.size w w') : ForestT w' T ts vs := h.keep hb.size (fun b hm => hb.block b (h.lt b hm))
theorem ForestT.grown {row : Option Nat} (h : ForestT w T ts vs) (hg : w.grownBy w' row) (hne : ∀ b, row = some b → b ∉ T) : ForestT w' T ts vs := h.keep hg.size (fun b hm => hg.block b (h.lt b hm) (fun e => hne b e.symm hm))
theorem ForestT.nil (w : World) (T : List Nat) (hlt : ∀ b ∈ T, b < w.heap.size) : ForestT w T [] [] := ⟨rfl, hlt, fun i e v h => by cases h⟩
theorem ForestT.cells (h : ForestT w T ts vs) : sizes 4 vs := by
  have : ∀ v ∈ vs, v.cells.size = 4 := fun v hv => by
    obtain ⟨k, hk, rfl⟩ := List.getElem_of_mem hv
    obtain ⟨z, hz⟩ : ∃ z, ts[k]? = some z := ⟨_, List.getElem?_eq_getElem (by have := h.len; omega)⟩
    exact (h.rep k z _ hz (List.getElem?_eq_getElem hk)).cells4
  clear h
  induction vs with
  | nil => trivial
  | cons v r ih => exact ⟨this v List.mem_cons_self, ih (fun u hu => this u (List.mem_cons_of_mem _ hu))⟩
theorem ForestT.app {B : Nat} {v : Value} (h : ForestT w T ts vs) (hv : Apart v T) (ha : App w w' B v) : ForestT w' T ts vs := h.grown ha.grown fun b e => hv b e
theorem ForestT.put {g B : Nat} {t : TypeId} {cur cs : Array Value} (h : ForestT w T ts vs) (_k : Blk w g t cur) (p : Put w w' g t cs) (_e : B ≤ g) (hne : g ∉ T := by assumption) : ForestT w' T ts vs :=
  h.grown p.grown fun b e => by injection e with e; exact e ▸ hne
end
theorem rows_of {w : World} {B len : Nat} {ty : TypeId} {vA : Value} {avs : List Value} {S : Nat → Prop} (hA : Own w B ty 4 vA len (flatC avs)) (hS : ∀ b, vA.ownBlock = some b → S b) : ∃ A c, vA = .slice A len c ∧ (0 < len → Rows w S A (flatC avs)) := by
  obtain ⟨A, c, rfl, hrd⟩ := hA.reads
  refine ⟨A, c, rfl, fun h0 hne => ?_⟩
  obtain ⟨ad, rfl, -, hc⟩ := hrd.2 h0
  exact ⟨ad, rfl, hS _ rfl, hc⟩
theorem rows_nil {w : World} {S : Nat → Prop} {A : Option Addr} {avs : List Value} (h : avs.length = 0) : Rows w S A (flatC avs) := fun hne => by
  rw [List.eq_nil_of_length_eq_zero h] at hne
  exact absurd rfl hne
/-- A forest that has one term more. -/
theorem ForestT.more {w : World} {T : List Nat} {ts args : List Tm} {eargs : List Ex} {vs avs evs : List Value} {B B' : Nat} {o : Int} {nm : List Nat} {vE vT : Value} (h : ForestT w T ts vs) (hle : evs.length = eargs.length) (hl : avs.length = args.length) (h60' : eargs.length ≤ 1000) (h60 : args.length ≤ 1000) (hop : I64 o) (hnm : ∀ d ∈ nm, d < 256) (hnl : nm.length ≤ 9223372036854775807)
    (hre : ∀ (i : Nat) (e : Ex) (v : Value), eargs[i]? = some e → evs[i]? = some v → RepE w (· ∈ T) e v) (hr : ∀ (i : Nat) (e : Tm) (v : Value), args[i]? = some e → avs[i]? = some v → RepT w (· ∈ T) e v) (hE : Own w B' 35 4 vE eargs.length (flatC evs)) (hA : Own w B 57 4 vT args.length (flatC avs)) :
    ForestT w (blocksOf vE ++ (blocksOf vT ++ T)) (ts ++ [.mk o nm eargs args]) (vs ++ [.agg #[.int .i64 o, .string (strOf nm), vE, vT]]) := by
  have hbE := hE.blockLt
  have hbT := hA.blockLt
  obtain ⟨AE, cE, rfl, hRE⟩ := rows_of (S := (· ∈ blocksOf vE ++ (blocksOf vT ++ T))) hE (fun b hb => List.mem_append_left _ (mem_blocksOf.2 hb))
  obtain ⟨AT, cT, rfl, hRT⟩ := rows_of (S := (· ∈ blocksOf (.slice AE eargs.length cE) ++ (blocksOf vT ++ T))) hA (fun b hb => List.mem_append_right _ (List.mem_append_left _ (mem_blocksOf.2 hb)))
  refine ⟨by rw [List.length_append, List.length_append, h.len]; rfl, fun b hm => ?_, fun i e v he hvi => ?_⟩
  · rcases List.mem_append.1 hm with hm | hm
    · exact (hbE b (mem_blocksOf.1 hm)).2
    · rcases List.mem_append.1 hm with hm | hm
      · exact (hbT b (mem_blocksOf.1 hm)).2
      · exact h.lt b hm
  · rcases Nat.lt_or_ge i ts.length with hi | hi
    · rw [List.getElem?_append_left hi] at he
      rw [List.getElem?_append_left (by rw [h.len]; exact hi)] at hvi
      exact (h.rep i e v he hvi).mono (fun b hb => List.mem_append_right _ (List.mem_append_right _ hb)) (fun _ _ => rfl)
    · rw [List.getElem?_append_right hi] at he
      rw [List.getElem?_append_right (by rw [h.len]; exact hi), h.len] at hvi
      have h0 : i - ts.length = 0 := by
        have := (List.getElem?_eq_some_iff.1 he).1
        simp at this
        exact this
      rw [h0] at he hvi
      injection he with he
      injection hvi with hvi
      subst he hvi
      refine .mk hle hl h60' h60 hop hnm hnl (fun i e v he hv => (hre i e v he hv).mono (fun b hb => List.mem_append_right _ (List.mem_append_right _ hb)) (fun _ _ => rfl)) (fun i e v he hv => (hr i e v he hv).mono (fun b hb => List.mem_append_right _ (List.mem_append_right _ hb)) (fun _ _ => rfl)) ?_ ?_
      · rcases Nat.eq_zero_or_pos eargs.length with h0 | h0
        · exact rows_nil (by omega)
        · exact hRE h0
      · rcases Nat.eq_zero_or_pos args.length with h0 | h0
        · exact rows_nil (by omega)
        · exact hRT h0
end Go.Proofs.Ytijaldpmpjapiaa

