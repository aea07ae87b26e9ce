/-
  Texts that were joined: TreN, TreO, TreP, TOpen. Conditions: what each theorem names.
-/
import Derived.Test.YtijaldpmpjapiaaM6
import Derived.ProofKit
import Derived.OpenShut
import Derived.Lib.SmallJoins
import Derived.Deep.Slices
import Derived.Deep.Fields
import Derived.ChangeSame
set_option linter.unusedSectionVars false
namespace Go.Proofs.Ytijaldpmpjapiaa
open Go.RowKit

/-- What is known of the expressions within. -/
def RecW (B g L : Nat) (w : World) (e : Ex) (A : Option Addr) : Prop := ∀ (i : Nat) (x : Ex), e.args[i]? = some x → ∃ ad A' c', A = some ad ∧
  (∀ W, Below B w W → ∀ (j : Nat) (u : Value), ([.int .i64 x.op, .int .i64 x.n, .string (strOf x.name), .slice A' x.args.length c'] : List Value)[j]? = some u → W.cell? ((ad.add (i * 4)).add j) = some u) ∧
  (∀ W bs' least, Below B w W → Bw W B g bs' → I64 least → bs'.length ≤ L → Calls Try.prog 43 #[.pointer (some ⟨g, 0, none⟩), .agg #[.int .i64 x.op, .int .i64 x.n, .string (strOf x.name), .slice A' x.args.length c'], .int .i64 least] W (WrRet B g (bs' ++ inT x least) W))
theorem inT_one (x : Ex) : inT x 1 = exprT x := by
  unfold inT parT
  rw [if_neg (by have := (bindT_len x.op).2.2.1; show ¬ (bindT x.op).2 < 1; omega)]
  rfl
theorem exprArg_of (B g L g3 g4 c i : Nat) (A : Option Addr) (e x : Ex) (bs : List Nat) (w W : World) (h : RecW B g L w e A) (hb : Below B w W) (k3 : Blk W g3 77 #[.pointer (some ⟨g, 0, none⟩)]) (k4 : Blk W g4 35 #[.int .i64 e.op, .int .i64 e.n, .string (strOf e.name), .slice A e.args.length c]) (wr : Bw W B g bs) (hL : bs.length ≤ L) (hx : e.args[i]? = some x) :
    Calls Try.prog 81 #[.int .i64 (i : Int), .pointer (some ⟨g3, 0, none⟩), .pointer (some ⟨g4, 0, none⟩)] W (WrRet B g (bs ++ exprT x) W) := by
  obtain ⟨ad, A', c', rfl, hc, hcall⟩ := h i x hx
  have hi := (List.getElem?_eq_some_iff.1 hx).1
  have hBW := wr.size
  have hcall := fun W' (hb2 : Below W.heap.size W W') (wr' : Bw W' B g bs) => hcall W' bs 1 (hb.trans (hb2.mono hBW)) wr' (by unfold I64; omega) hL
  rw [inT_one] at hcall
  have hc := fun W' (hb2 : Below W.heap.size W W') => hc W' (hb.trans (hb2.mono hBW))
  have bel := Below.refl W.heap.size W
  have wt := Wt.refl B W
  refine Calls.start 11 Try.func81 rfl rfl rfl ?_
  refine Cd.draw 6 (by kernel_rfl) [] (.inl rfl) rfl Grow Grow.refl (fun _ _ _ => Grow.trans) ?_
  intro w1 hw1 zw1
  replace bel := bel.step hw1
  replace wt := wt.step hw1
  replace wr := wr.step hw1
  replace k3 := k3.step hw1
  replace k4 := k4.step hw1
  have zbel := bel.size
  have zlt := k4.lt
  refine Dr.val Grow.refl rfl (fun w hG => Runs.loadB rfl rfl Try.underlying77 rfl (k3.step hG) rfl) rfl ?_
  refine Dr.val Grow.refl rfl (fun w hG => Runs.fieldB 3 rfl rfl Try.underlying35 rfl (by kernel_rfl)) rfl ?_
  refine Dr.val Grow.refl rfl (fun w hG => Runs.loadB rfl rfl Try.underlying25 rfl (k4.step hG) rfl) rfl ?_
  refine Dr.val Grow.refl rfl (fun w hG => Runs.move rfl rfl) rfl ?_
  refine Dr.val Grow.refl rfl (fun w hG => Runs.indexN rfl rfl rfl Try.underlying25 (s := 4) (by kernel_rfl) (j := i) rfl (by omega)) rfl ?_
  refine Dr.val Grow.refl rfl (fun w hG => Runs.loadF (ps := [.int .i64 x.op, .int .i64 x.n, .string (strOf x.name), .slice A' x.args.length c']) rfl rfl Try.underlying35 rfl (m := 4) (by kernel_rfl) rfl (hc _ (bel.step hG))) rfl ?_
  refine Dr.nil ?_
  refine FinX.done (F' := [(0, _), (1, _), (2, _), (4, _), (9, _)]) rfl ⟨rfl, rfl, rfl, rfl, rfl, trivial⟩ ?_
  intro w2 hw2 fw2
  replace bel := bel.step hw2
  replace wt := wt.step hw2
  replace wr := wr.step hw2
  replace k3 := k3.step hw2
  replace k4 := k4.step hw2
  have hcc := hcall _ bel wr
  clear bel
  refine Seq.call (Enters.func rfl rfl rfl (run_enter Try.func43 (by kernel_rfl) rfl)) rfl rfl rfl (hcc) ?_
  clear wr
  rintro e w3 ⟨⟨_, rfl⟩, fw3, wr⟩
  refine ⟨_, rfl, ?_⟩
  replace wt := wt.wt fw3
  refine Seq.nil ?_
  refine Post.weak (F' := [(0, _), (1, _), (2, _)]) ⟨rfl, rfl, rfl, trivial⟩ ?_
  refine Post.end0 rfl (.inr rfl) ?_
  exact ⟨⟨_, rfl⟩, wt, wr⟩
theorem eg_arg : ∀ args w, (callFunc 81 args).run Try.prog w = .ok (.enter 81 args) w := fun args w => run_enter Try.func81 (by kernel_rfl) rfl args w
theorem exprArgs_of (B g L g3 g4 c : Nat) (A : Option Addr) (e : Ex) (word bs : List Nat) (w W : World) (h : RecW B g L w e A) (hb : Below B w W) (k3 : Blk W g3 77 #[.pointer (some ⟨g, 0, none⟩)]) (k4 : Blk W g4 35 #[.int .i64 e.op, .int .i64 e.n, .string (strOf e.name), .slice A e.args.length c]) (wr : Bw W B g bs) (hL : bs.length + 50000 ≤ L) (hL2 : L ≤ 900000000)
    (hw : ∀ d ∈ word, d < 256) (hwl : word.length ≤ 100) (hbt : ∀ x ∈ e.args, builtB x = true) (hn : e.args.length ≤ 1000) (hj : (joinT (e.args.map exprT)).length ≤ 20000) :
    Calls Try.prog 79 #[.string (strOf word), .pointer (some ⟨g3, 0, none⟩), .pointer (some ⟨g4, 0, none⟩)] W (WrRet B g (bs ++ word ++ [40] ++ joinT (e.args.map exprT) ++ [41]) W) := by
  have wt := Wt.refl B W
  have hBW := wr.size
  have hl : (e.args.map exprT).length = e.args.length := List.length_map _
  have hlist := list_any B g 81 e.args.length [.pointer (some ⟨g3, 0, none⟩), .pointer (some ⟨g4, 0, none⟩)] word bs (e.args.map exprT) W wr hw hwl hl hn (fun t ht => by obtain ⟨x, hx, rfl⟩ := List.mem_map.1 ht; exact (exprT_bd x.nodes x (Nat.le_refl _) (hbt x hx)).2) hj (by omega) eg_arg
    (fun i t ht W' bs' hwt hwr hlen => by
      rw [List.getElem?_map] at ht
      cases hx : e.args[i]? with
      | none => rw [hx] at ht; cases ht
      | some x =>
        rw [hx] at ht
        injection ht with ht
        subst ht
        exact exprArg_of B g L g3 g4 c i A e x bs' w W' h (hb.trans (hwt.to hBW)) (k3.wt hwt) (k4.wt hwt) hwr (by omega) hx)
  refine Calls.start 11 Try.func79 rfl rfl rfl ?_
  refine Cd.region ?_
  refine Seq.val (Runs.loadB rfl rfl Try.underlying77 rfl k3 rfl) rfl rfl rfl ?_
  refine Seq.val (Runs.move rfl rfl) rfl rfl rfl ?_
  refine Seq.val (Runs.fieldB 3 rfl rfl Try.underlying35 rfl (by kernel_rfl)) rfl rfl rfl ?_
  refine Seq.val (Runs.loadB rfl rfl Try.underlying25 rfl k4 rfl) rfl rfl rfl ?_
  refine Seq.val (Runs.len rfl rfl Try.underlying25) rfl rfl rfl ?_
  refine Seq.val (Runs.makeFunc (v := .func (.func 81) #[] #[.pointer (some ⟨g3, 0, none⟩), .pointer (some ⟨g4, 0, none⟩)]) rfl (show evL _ _ = some [] from rfl) (show evL _ _ = some [.pointer (some ⟨g3, 0, none⟩), .pointer (some ⟨g4, 0, none⟩)] from rfl) rfl) rfl rfl rfl ?_
  refine Seq.call (Enters.func rfl rfl rfl (run_enter Try.func80 (by kernel_rfl) rfl)) rfl rfl rfl (hlist) ?_
  clear wr
  rintro e w1 ⟨⟨_, rfl⟩, fw1, wr⟩
  refine ⟨_, rfl, ?_⟩
  replace wt := wt.wt fw1
  refine Seq.nil ?_
  refine Post.weak (F' := [(0, _), (1, _), (2, _)]) ⟨rfl, rfl, rfl, trivial⟩ ?_
  refine Post.end0 rfl (.inr rfl) ?_
  exact ⟨⟨_, rfl⟩, wt, wr⟩
theorem eg_args : ∀ args w, (callFunc 79 args).run Try.prog w = .ok (.enter 79 args) w := fun args w => run_enter Try.func79 (by kernel_rfl) rfl args w
theorem eg_write : ∀ args w, (callFunc 78 args).run Try.prog w = .ok (.enter 78 args) w := fun args w => run_enter Try.func78 (by kernel_rfl) rfl args w
/-- Where the ways meet, with the parenthesis or without. -/
def ExJ (Q : Exit → Act → World → Prop) (B g g3 g4 n m : Nat) (bs T : List Nat) (cs : Array Value) (w : World) (I : Inhabited (List Deferred)) (wc : World) : Prop :=
  Wt B w wc ∧ Blk wc g3 77 #[.pointer (some ⟨g, 0, none⟩)] ∧ Blk wc g4 35 cs ∧ ∃ bs0, Bw wc B g bs0 ∧ bs0.length ≤ m ∧ ∀ wx ex, (ex = Exit.ret ∨ ex = Exit.normal) → Wt B w wx → Bw wx B g (bs0 ++ T) → @Post I Q ex n [] wx
theorem Cd.seqE {P : Program} {Q : Exit → Act → World → Prop} {n : Nat} {F : List (Nat × Value)} {wc : World} {x y : Code} (F' : List (Nat × Value)) (B g g3 g4 m : Nat) (bs T : List Nat) (cs : Array Value) (w : World) (hx : Cd P x (Exit.then (JoinD n F' (ExJ Q B g g3 g4 n m bs T cs w)) Q) n F wc) (hy : ∀ I w2, ExJ Q B g g3 g4 n m bs T cs w I w2 → @Cd I P y Q n F' w2) : Cd P (.seq x y) Q n F wc := Cd.seqD F' _ hx hy
theorem exprW_any (N : Nat) : ∀ (e : Ex) (B g : Nat) (bs : List Nat) (v : Value) (least : Int) (w : World), e.nodes ≤ N → e.nodes ≤ 200 → builtB e = true → Rep w B e v → Bw w B g bs → I64 least → bs.length + 100000 * e.depth ≤ 100000000 →
    Calls Try.prog 43 #[.pointer (some ⟨g, 0, none⟩), v, .int .i64 least] w (WrRet B g (bs ++ inT e least) w) := by
  induction N with
  | zero => intro e B g bs v least w hN; have := e.nodes_pos; omega
  | succ N ih =>
  intro e B g bs v least w hN h200 hbt hrep hbw hleast hbs
  obtain ⟨A, c, rfl, hv⟩ := hrep.open
  have hbd := exprT_bd e.nodes e (Nat.le_refl _) hbt
  obtain ⟨hh, hargs⟩ := builtB_inv hbt
  obtain ⟨h1, h2, h3, h4, h5, h6⟩ := headB_inv hh
  obtain ⟨o1, o2, o3, o4, o5, o6⟩ := arity_op h1
  obtain ⟨b1, b2, b3, b4⟩ := bindT_len e.op
  have hBW := hbw.size
  have hT := exprT_eq e
  unfold headT at hT
  have hrec : RecW B g (bs.length + 60000) w e A := fun i x hx => by
    obtain ⟨ad, A', c', e1, e2, e3, e4⟩ := hv.arg i x hx
    have hmem := List.mem_of_getElem? hx
    have hnd := Ex.arg_nodes hmem
    have hdp := Ex.arg_depth hmem
    have hbx := hargs x hmem
    exact ⟨ad, A', c', e1, fun W hb j u hu => (hb.cell (by rw [block_of_add, block_of_add]; omega)).trans (e4 j u hu), fun W bs' least hb hwr hls hlen => ih x B g bs' _ least W (by omega) (by omega) hbx (e3.below hb) hwr hls (by omega)⟩
  have hjl : (joinT (e.args.map exprT)).length ≤ 20000 := by
    have := joinT_len e.args fun z hz => (exprT_bd z.nodes z (Nat.le_refl _) (hargs z hz)).1
    have hn : e.nodes = 1 + nodesL e.args := by cases e; exact Ex.nodes_mk _ _ _ _
    have : e.args.length ≤ 3 := by omega
    omega
  have hl3 : e.args.length ≤ 3 := by omega
  have wt := Wt.refl B w
  have wr := hbw
  refine Calls.startD 114 Try.func43 rfl rfl rfl ?_
  refine Cd.seq ?_
  refine Cd.region ?_
  refine Seq.box rfl rfl rfl rfl rfl ?_
  intro g3 w1 n3
  replace wt := wt.step n3.below
  replace wr := wr.step n3.below
  have k3 := n3.blk
  refine Seq.box rfl rfl rfl rfl rfl ?_
  intro g4 w2 n4
  have l4 := Nat.lt_of_lt_of_le k3.lt n4.ge
  replace wt := wt.step n4.below
  replace wr := wr.step n4.below
  replace k3 := k3.step n4.below
  have k4 := n4.blk
  refine Seq.nil ?_
  refine Post.weak (F' := [(0, _), (1, _), (2, _), (3, _), (4, _)]) ⟨rfl, rfl, rfl, rfl, rfl, trivial⟩ ?_
  refine Post.then_ ?_
  refine Cd.seq ?_
  refine Cd.region ?_
  refine Seq.val (Runs.fieldB 0 rfl rfl Try.underlying35 rfl (by kernel_rfl)) rfl rfl rfl ?_
  refine Seq.val (Runs.loadB rfl rfl Try.underlying3 rfl k4 rfl) rfl rfl rfl ?_
  refine Seq.call (Enters.func rfl rfl rfl (run_enter Try.func77 (by kernel_rfl) rfl)) rfl rfl rfl (opSign_any e.op _) ?_
  rintro en w5 ⟨rfl, hb5⟩
  refine ⟨_, rfl, ?_⟩
  replace wt := wt.step hb5
  replace wr := wr.step hb5
  replace k3 := k3.step hb5
  replace k4 := k4.step hb5
  refine Seq.val (Runs.move rfl rfl) rfl rfl rfl ?_
  refine Seq.val (Runs.extract rfl rfl rfl) rfl rfl rfl ?_
  refine Seq.val (Runs.extract rfl rfl rfl) rfl rfl rfl ?_
  refine Seq.val (Runs.assign rfl rfl) rfl rfl rfl ?_
  refine Seq.val (Runs.assign rfl rfl) rfl rfl rfl ?_
  refine Seq.nil ?_
  refine Post.weak (F' := [(0, _), (1, _), (2, _), (3, _), (4, _), (6, _), (7, _)]) ⟨rfl, rfl, rfl, rfl, rfl, rfl, rfl, trivial⟩ ?_
  refine Post.then_ ?_
  refine Cd.seqE [(3, .pointer (some ⟨g3, 0, none⟩)), (4, .pointer (some ⟨g4, 0, none⟩)), (6, .string (strOf (bindT e.op).1)), (7, .int .i64 (bindT e.op).2)] B g g3 g4 (bs.length + 1) bs (exprT e) #[.int .i64 e.op, .int .i64 e.n, .string (strOf e.name), .slice A e.args.length c] w ?_ ?_
  · skip
    refine Cd.seq ?_
    refine Cd.region ?_
    refine Seq.val (Runs.move rfl rfl) rfl rfl rfl ?_
    refine Seq.val (Runs.move rfl rfl) rfl rfl rfl ?_
    refine Seq.val (Runs.lss rfl rfl rfl) rfl rfl rfl ?_
    refine Seq.nil ?_
    refine Post.weak (F' := [(0, _), (1, _), (2, _), (3, _), (4, _), (6, _), (7, _), (18, _)]) ⟨rfl, rfl, rfl, rfl, rfl, rfl, rfl, rfl, trivial⟩ ?_
    refine Post.then_ ?_
    refine Cd.condD rfl (fun hc => ?_) (fun hc => ?_)
    · have hin : inT e least = [40] ++ exprT e ++ [41] := by
        unfold inT parT
        rw [if_pos (show (pairT e).1 < least from hc)]
        rfl
      refine Cd.seq ?_
      refine Cd.region ?_
      refine Seq.val (Runs.loadB rfl rfl Try.underlying77 rfl k3 rfl) rfl rfl rfl ?_
      refine Seq.val (Runs.nilCheck rfl rfl) rfl rfl rfl ?_
      refine Seq.val (Runs.fieldB 0 rfl rfl Try.underlying112 rfl (by kernel_rfl)) rfl rfl rfl ?_
      refine Seq.call (Enters.func rfl rfl rfl (run_enter Try.func78 (by kernel_rfl) rfl)) rfl rfl rfl ((writeS_both B g [40] bs _ wr (by decide) (by simp only [List.length_cons, List.length_nil]; omega)).1) ?_
      clear wr
      rintro e w3 ⟨⟨_, rfl⟩, fw3, wr⟩
      refine ⟨_, rfl, ?_⟩
      replace wt := wt.wt fw3
      replace k3 := k3.wt fw3
      replace k4 := k4.wt fw3
      refine Seq.nil ?_
      refine Post.weak (F' := [(0, _), (1, _), (2, _), (3, _), (4, _), (6, _), (7, _), (18, _)]) ⟨rfl, rfl, rfl, rfl, rfl, rfl, rfl, rfl, trivial⟩ ?_
      refine Post.then_ ?_
      refine Cd.region ?_
      refine Seq.val (Runs.loadB rfl rfl Try.underlying77 rfl k3 rfl) rfl rfl rfl ?_
      refine Seq.val (Runs.nilCheck rfl rfl) rfl rfl rfl ?_
      refine Seq.val (Runs.fieldB 0 rfl rfl Try.underlying112 rfl (by kernel_rfl)) rfl rfl rfl ?_
      refine Seq.defer_ rfl rfl rfl rfl ?_
      intro I hI
      refine Seq.nil ?_
      refine Post.weak (F' := [(0, _), (1, _), (2, _), (3, _), (4, _), (6, _), (7, _), (18, _)]) ⟨rfl, rfl, rfl, rfl, rfl, rfl, rfl, rfl, trivial⟩ ?_
      refine Post.joinD ⟨rfl, rfl, rfl, rfl, trivial⟩ ⟨wt, k3, k4, bs ++ [40], wr, by simp, fun wx ex hex wtx wrx => ?_⟩
      refine Post.endD1 hI rfl hex eg_write ((writeS_both B g [41] _ wx wrx (by decide) (by simp only [List.length_append, List.length_cons, List.length_nil]; omega)).2 .returning) fun en w' hw => ?_
      refine ⟨hw.1, ⟨_, rfl⟩, wtx.wt hw.2.1, ?_⟩
      rw [hin]
      simpa only [List.append_assoc] using hw.2.2
    · have hin : inT e least = exprT e := by
        unfold inT parT
        rw [if_neg (show ¬ (pairT e).1 < least from hc)]
        rfl
      refine Cd.skip ?_
      refine Post.joinD ⟨rfl, rfl, rfl, rfl, trivial⟩ ⟨wt, k3, k4, bs, wr, by omega, fun wx ex hex wtx wrx => ?_⟩
      refine Post.endD0 rfl hex ?_
      rw [hin]
      exact ⟨⟨_, rfl⟩, wtx, wrx⟩
  clear wt wr k3 k4
  rintro I w8 ⟨wt, k3, k4, bs0, wr, hb0, hend⟩
  have hpre : B ≤ w8.heap.size := wr.size
  refine Cd.seq ?_
  refine Cd.region ?_
  refine Seq.val (Runs.makeFunc (v := .func (.func 79) #[] #[.pointer (some ⟨g3, 0, none⟩), .pointer (some ⟨g4, 0, none⟩)]) rfl (show evL _ _ = some [] from rfl) (show evL _ _ = some [.pointer (some ⟨g3, 0, none⟩), .pointer (some ⟨g4, 0, none⟩)] from rfl) rfl) rfl rfl rfl ?_
  refine Seq.val (Runs.assign rfl rfl) rfl rfl rfl ?_
  refine Seq.nil ?_
  refine Post.weak (F' := [(3, _), (4, _), (6, _), (7, _), (8, _)]) ⟨rfl, rfl, rfl, rfl, rfl, trivial⟩ ?_
  refine Post.then_ ?_
  refine Cd.seq ?_
  refine Cd.region ?_
  refine Seq.val (Runs.fieldB 0 rfl rfl Try.underlying35 rfl (by kernel_rfl)) rfl rfl rfl ?_
  refine Seq.val (Runs.loadB rfl rfl Try.underlying3 rfl k4 rfl) rfl rfl rfl ?_
  refine Seq.nil ?_
  refine Post.weak (F' := [(3, _), (4, _), (6, _), (7, _), (8, _), (28, _)]) ⟨rfl, rfl, rfl, rfl, rfl, rfl, trivial⟩ ?_
  refine Post.then_ ?_
  refine Cd.block ?_
  refine Cd.seq ?_
  refine Cd.region ?_
  refine Seq.val (Runs.eqlI rfl rfl rfl) rfl rfl rfl ?_
  refine Seq.val (Runs.assign rfl rfl) rfl rfl rfl ?_
  refine Seq.nil ?_
  refine Post.weak (F' := [(3, _), (4, _), (6, _), (7, _), (8, _), (28, _), (56, _)]) ⟨rfl, rfl, rfl, rfl, rfl, rfl, rfl, trivial⟩ ?_
  refine Post.then_ ?_
  refine Cd.condD rfl (fun c1 => ?_) (fun c1 => ?_)
  · rw [if_pos c1] at hT
    refine Cd.draw 6 (by kernel_rfl) [] (.inl rfl) rfl Grow Grow.refl (fun _ _ _ => Grow.trans) ?_
    intro w3 hw3 zw3
    replace wt := wt.step hw3
    replace wr := wr.step hw3
    replace k3 := k3.step hw3
    replace k4 := k4.step hw3
    have zlt := k4.lt
    refine Dr.val Grow.refl rfl (fun w hG => Runs.loadB rfl rfl Try.underlying77 rfl (k3.step hG) rfl) rfl ?_
    refine Dr.val Grow.refl rfl (fun w hG => Runs.nilCheck rfl rfl) rfl ?_
    refine Dr.val Grow.refl rfl (fun w hG => Runs.fieldB 0 rfl rfl Try.underlying112 rfl (by kernel_rfl)) rfl ?_
    refine Dr.val Grow.refl rfl (fun w hG => Runs.fieldB 1 rfl rfl Try.underlying35 rfl (by kernel_rfl)) rfl ?_
    refine Dr.val Grow.refl rfl (fun w hG => Runs.loadB rfl rfl Try.underlying2 rfl (k4.step hG) rfl) rfl ?_
    refine Dr.callV rfl (fun w => Enters.func rfl rfl rfl (run_enter Try.func82 (by kernel_rfl) rfl)) rfl (fun w hG => numPrintC e.n w hv.n) ?_
    refine Dr.nil ?_
    refine FinX.done (F' := [(3, _), (4, _), (6, _), (7, _), (8, _), (28, _), (56, _), (60, _), (63, _)]) rfl ⟨rfl, rfl, rfl, rfl, rfl, rfl, rfl, rfl, rfl, trivial⟩ ?_
    intro w4 hw4 fw4
    replace wt := wt.step hw4
    replace wr := wr.step hw4
    replace k3 := k3.step hw4
    replace k4 := k4.step hw4
    refine Seq.call (Enters.func rfl rfl rfl (run_enter Try.func78 (by kernel_rfl) rfl)) rfl rfl rfl ((writeS_both B g (numT e.n) bs0 _ wr (numT_lt _) (by have := numT_len e.n; omega)).1) ?_
    clear wr
    rintro e w5 ⟨⟨_, rfl⟩, fw5, wr⟩
    refine ⟨_, rfl, ?_⟩
    replace wt := wt.wt fw5
    replace k3 := k3.wt fw5
    replace k4 := k4.wt fw5
    refine Seq.nil ?_
    refine Post.weak (F' := [(3, _), (4, _), (6, _), (7, _), (8, _), (28, _), (56, _)]) ⟨rfl, rfl, rfl, rfl, rfl, rfl, rfl, trivial⟩ ?_
    refine Post.block_normal ?_
    refine Post.weak (F' := []) trivial ?_
    exact hend _ _ (.inr rfl) wt (by rw [hT]; exact wr)
  rw [if_neg c1] at hT
  refine Cd.seq ?_
  refine Cd.region ?_
  refine Seq.val (Runs.eqlI rfl rfl rfl) rfl rfl rfl ?_
  refine Seq.val (Runs.assign rfl rfl) rfl rfl rfl ?_
  refine Seq.nil ?_
  refine Post.weak (F' := [(3, _), (4, _), (6, _), (7, _), (8, _), (28, _), (56, _), (65, _)]) ⟨rfl, rfl, rfl, rfl, rfl, rfl, rfl, rfl, trivial⟩ ?_
  refine Post.then_ ?_
  refine Cd.condD rfl (fun c2 => ?_) (fun c2 => ?_)
  · rw [if_pos c2] at hT
    have hday : ∀ W, Calls Try.prog 83 #[.int .i64 e.n] W fun e1 w' => e1 = .returned (.string (strOf (dayT e.n.toNat))) ∧ Grow W w' := fun W => by
      have := dayPrint_any e.n.toNat W (by have := h5 c2; omega)
      rwa [Int.toNat_of_nonneg h4] at this
    refine Cd.draw 6 (by kernel_rfl) [] (.inl rfl) rfl Grow Grow.refl (fun _ _ _ => Grow.trans) ?_
    intro w3 hw3 zw3
    replace wt := wt.step hw3
    replace wr := wr.step hw3
    replace k3 := k3.step hw3
    replace k4 := k4.step hw3
    have zlt := k4.lt
    refine Dr.val Grow.refl rfl (fun w hG => Runs.loadB rfl rfl Try.underlying77 rfl (k3.step hG) rfl) rfl ?_
    refine Dr.val Grow.refl rfl (fun w hG => Runs.nilCheck rfl rfl) rfl ?_
    refine Dr.val Grow.refl rfl (fun w hG => Runs.fieldB 0 rfl rfl Try.underlying112 rfl (by kernel_rfl)) rfl ?_
    refine Dr.val Grow.refl rfl (fun w hG => Runs.fieldB 1 rfl rfl Try.underlying35 rfl (by kernel_rfl)) rfl ?_
    refine Dr.val Grow.refl rfl (fun w hG => Runs.loadB rfl rfl Try.underlying2 rfl (k4.step hG) rfl) rfl ?_
    refine Dr.callV rfl (fun w => Enters.func rfl rfl rfl (run_enter Try.func83 (by kernel_rfl) rfl)) rfl (fun w hG => hday w) ?_
    refine Dr.nil ?_
    refine FinX.done (F' := [(3, _), (4, _), (6, _), (7, _), (8, _), (28, _), (56, _), (65, _), (69, _), (72, _)]) rfl ⟨rfl, rfl, rfl, rfl, rfl, rfl, rfl, rfl, rfl, rfl, trivial⟩ ?_
    intro w4 hw4 fw4
    replace wt := wt.step hw4
    replace wr := wr.step hw4
    replace k3 := k3.step hw4
    replace k4 := k4.step hw4
    refine Seq.call (Enters.func rfl rfl rfl (run_enter Try.func78 (by kernel_rfl) rfl)) rfl rfl rfl ((writeS_both B g (dayT e.n.toNat) bs0 _ wr (dayT_lt _) (by have := dayT_len e.n.toNat; omega)).1) ?_
    clear wr
    rintro e w5 ⟨⟨_, rfl⟩, fw5, wr⟩
    refine ⟨_, rfl, ?_⟩
    replace wt := wt.wt fw5
    replace k3 := k3.wt fw5
    replace k4 := k4.wt fw5
    refine Seq.nil ?_
    refine Post.weak (F' := [(3, _), (4, _), (6, _), (7, _), (8, _), (28, _), (56, _), (65, _)]) ⟨rfl, rfl, rfl, rfl, rfl, rfl, rfl, rfl, trivial⟩ ?_
    refine Post.block_normal ?_
    refine Post.weak (F' := []) trivial ?_
    exact hend _ _ (.inr rfl) wt (by rw [hT]; exact wr)
  rw [if_neg c2] at hT
  refine Cd.seq ?_
  refine Cd.region ?_
  refine Seq.val (Runs.eqlI rfl rfl rfl) rfl rfl rfl ?_
  refine Seq.val (Runs.assign rfl rfl) rfl rfl rfl ?_
  refine Seq.nil ?_
  refine Post.weak (F' := [(3, _), (4, _), (6, _), (7, _), (8, _), (28, _), (56, _), (65, _), (74, _)]) ⟨rfl, rfl, rfl, rfl, rfl, rfl, rfl, rfl, rfl, trivial⟩ ?_
  refine Post.then_ ?_
  refine Cd.condD rfl (fun c3 => ?_) (fun c3 => ?_)
  · rw [if_pos c3] at hT
    refine Cd.draw 5 (by kernel_rfl) [] (.inl rfl) rfl Grow Grow.refl (fun _ _ _ => Grow.trans) ?_
    intro w3 hw3 zw3
    replace wt := wt.step hw3
    replace wr := wr.step hw3
    replace k3 := k3.step hw3
    replace k4 := k4.step hw3
    have zlt := k4.lt
    refine Dr.val Grow.refl rfl (fun w hG => Runs.loadB rfl rfl Try.underlying77 rfl (k3.step hG) rfl) rfl ?_
    refine Dr.val Grow.refl rfl (fun w hG => Runs.nilCheck rfl rfl) rfl ?_
    refine Dr.val Grow.refl rfl (fun w hG => Runs.fieldB 0 rfl rfl Try.underlying112 rfl (by kernel_rfl)) rfl ?_
    refine Dr.val Grow.refl rfl (fun w hG => Runs.fieldB 2 rfl rfl Try.underlying35 rfl (by kernel_rfl)) rfl ?_
    refine Dr.val Grow.refl rfl (fun w hG => Runs.loadB rfl rfl Try.underlying9 rfl (k4.step hG) rfl) rfl ?_
    refine Dr.nil ?_
    refine FinX.done (F' := [(3, _), (4, _), (6, _), (7, _), (8, _), (28, _), (56, _), (65, _), (74, _), (78, _), (80, _)]) rfl ⟨rfl, rfl, rfl, rfl, rfl, rfl, rfl, rfl, rfl, rfl, rfl, trivial⟩ ?_
    intro w4 hw4 fw4
    replace wt := wt.step hw4
    replace wr := wr.step hw4
    replace k3 := k3.step hw4
    replace k4 := k4.step hw4
    refine Seq.call (Enters.func rfl rfl rfl (run_enter Try.func78 (by kernel_rfl) rfl)) rfl rfl rfl ((writeS_both B g e.name bs0 _ wr (free_lt (h6 c3)) (by have := free_len (h6 c3); omega)).1) ?_
    clear wr
    rintro e w5 ⟨⟨_, rfl⟩, fw5, wr⟩
    refine ⟨_, rfl, ?_⟩
    replace wt := wt.wt fw5
    replace k3 := k3.wt fw5
    replace k4 := k4.wt fw5
    refine Seq.nil ?_
    refine Post.weak (F' := [(3, _), (4, _), (6, _), (7, _), (8, _), (28, _), (56, _), (65, _), (74, _)]) ⟨rfl, rfl, rfl, rfl, rfl, rfl, rfl, rfl, rfl, trivial⟩ ?_
    refine Post.block_normal ?_
    refine Post.weak (F' := []) trivial ?_
    exact hend _ _ (.inr rfl) wt (by rw [hT]; exact wr)
  rw [if_neg c3] at hT
  refine Cd.seq ?_
  refine Cd.region ?_
  refine Seq.val (Runs.eqlI rfl rfl rfl) rfl rfl rfl ?_
  refine Seq.val (Runs.assign rfl rfl) rfl rfl rfl ?_
  refine Seq.nil ?_
  refine Post.weak (F' := [(3, _), (4, _), (6, _), (7, _), (8, _), (28, _), (56, _), (65, _), (74, _), (82, _)]) ⟨rfl, rfl, rfl, rfl, rfl, rfl, rfl, rfl, rfl, rfl, trivial⟩ ?_
  refine Post.then_ ?_
  refine Cd.condD rfl (fun c4 => ?_) (fun c4 => ?_)
  · rw [if_pos c4] at hT
    refine Cd.region ?_
    refine Seq.val (Runs.loadB rfl rfl Try.underlying77 rfl k3 rfl) rfl rfl rfl ?_
    refine Seq.val (Runs.nilCheck rfl rfl) rfl rfl rfl ?_
    refine Seq.val (Runs.fieldB 0 rfl rfl Try.underlying112 rfl (by kernel_rfl)) rfl rfl rfl ?_
    refine Seq.call (Enters.func rfl rfl rfl (run_enter Try.func78 (by kernel_rfl) rfl)) rfl rfl rfl ((writeS_both B g [100, 97, 121] bs0 _ wr (by decide) (by simp only [List.length_cons, List.length_nil]; omega)).1) ?_
    clear wr
    rintro e w3 ⟨⟨_, rfl⟩, fw3, wr⟩
    refine ⟨_, rfl, ?_⟩
    replace wt := wt.wt fw3
    replace k3 := k3.wt fw3
    replace k4 := k4.wt fw3
    refine Seq.nil ?_
    refine Post.weak (F' := [(3, _), (4, _), (6, _), (7, _), (8, _), (28, _), (56, _), (65, _), (74, _), (82, _)]) ⟨rfl, rfl, rfl, rfl, rfl, rfl, rfl, rfl, rfl, rfl, trivial⟩ ?_
    refine Post.block_normal ?_
    refine Post.weak (F' := []) trivial ?_
    exact hend _ _ (.inr rfl) wt (by rw [hT]; exact wr)
  rw [if_neg c4] at hT
  refine Cd.seq ?_
  refine Cd.region ?_
  refine Seq.val (Runs.eqlI rfl rfl rfl) rfl rfl rfl ?_
  refine Seq.val (Runs.assign rfl rfl) rfl rfl rfl ?_
  refine Seq.nil ?_
  refine Post.weak (F' := [(3, _), (4, _), (6, _), (7, _), (8, _), (28, _), (56, _), (65, _), (74, _), (82, _), (88, _)]) ⟨rfl, rfl, rfl, rfl, rfl, rfl, rfl, rfl, rfl, rfl, rfl, trivial⟩ ?_
  refine Post.then_ ?_
  refine Cd.condD rfl (fun c9 => ?_) (fun c9 => ?_)
  · have hb : bindT e.op = ([], 7) := by rw [c9]; rfl
    rw [if_neg (by rw [hb]; decide), if_neg (by rw [hb]; decide), if_neg (by rw [hb]; decide), if_pos c9, snd_pairT] at hT
    refine Cd.region ?_
    refine Seq.val (Runs.move rfl rfl) rfl rfl rfl ?_
    refine Seq.call (Enters.value (first := []) (cap := [.pointer (some ⟨g3, 0, none⟩), .pointer (some ⟨g4, 0, none⟩)]) rfl rfl rfl eg_args) rfl rfl rfl (exprArgs_of B g (bs.length + 60000) g3 g4 c A e [109, 105, 110] bs0 w _ hrec (wt.to hBW) k3 k4 wr (by omega) (by omega) (by decide) (by decide) hargs (by omega) hjl) ?_
    clear wr
    rintro en w9 ⟨⟨_, rfl⟩, f9, wr⟩
    refine ⟨_, rfl, ?_⟩
    replace wt := wt.wt f9
    refine Seq.nil ?_
    refine Post.weak (F' := [(3, _), (4, _), (6, _), (7, _), (8, _), (28, _), (56, _), (65, _), (74, _), (82, _), (88, _)]) ⟨rfl, rfl, rfl, rfl, rfl, rfl, rfl, rfl, rfl, rfl, rfl, trivial⟩ ?_
    refine Post.block_normal ?_
    refine Post.weak (F' := []) trivial ?_
    exact hend _ _ (.inr rfl) wt (by rw [hT]; simpa only [List.append_assoc, List.cons_append, List.nil_append] using wr)
  refine Cd.seq ?_
  refine Cd.region ?_
  refine Seq.val (Runs.eqlI rfl rfl rfl) rfl rfl rfl ?_
  refine Seq.val (Runs.assign rfl rfl) rfl rfl rfl ?_
  refine Seq.nil ?_
  refine Post.weak (F' := [(3, _), (4, _), (6, _), (7, _), (8, _), (28, _), (56, _), (65, _), (74, _), (82, _), (88, _), (92, _)]) ⟨rfl, rfl, rfl, rfl, rfl, rfl, rfl, rfl, rfl, rfl, rfl, rfl, trivial⟩ ?_
  refine Post.then_ ?_
  refine Cd.condD rfl (fun c10 => ?_) (fun c10 => ?_)
  · have hb : bindT e.op = ([], 7) := by rw [c10]; rfl
    rw [if_neg (by rw [hb]; decide), if_neg (by rw [hb]; decide), if_neg (by rw [hb]; decide), if_neg c9, if_pos c10, snd_pairT] at hT
    refine Cd.region ?_
    refine Seq.val (Runs.move rfl rfl) rfl rfl rfl ?_
    refine Seq.call (Enters.value (first := []) (cap := [.pointer (some ⟨g3, 0, none⟩), .pointer (some ⟨g4, 0, none⟩)]) rfl rfl rfl eg_args) rfl rfl rfl (exprArgs_of B g (bs.length + 60000) g3 g4 c A e [109, 97, 120] bs0 w _ hrec (wt.to hBW) k3 k4 wr (by omega) (by omega) (by decide) (by decide) hargs (by omega) hjl) ?_
    clear wr
    rintro en w9 ⟨⟨_, rfl⟩, f9, wr⟩
    refine ⟨_, rfl, ?_⟩
    replace wt := wt.wt f9
    refine Seq.nil ?_
    refine Post.weak (F' := [(3, _), (4, _), (6, _), (7, _), (8, _), (28, _), (56, _), (65, _), (74, _), (82, _), (88, _), (92, _)]) ⟨rfl, rfl, rfl, rfl, rfl, rfl, rfl, rfl, rfl, rfl, rfl, rfl, trivial⟩ ?_
    refine Post.block_normal ?_
    refine Post.weak (F' := []) trivial ?_
    exact hend _ _ (.inr rfl) wt (by rw [hT]; simpa only [List.append_assoc, List.cons_append, List.nil_append] using wr)
  refine Cd.seq ?_
  refine Cd.region ?_
  refine Seq.val (Runs.eqlI rfl rfl rfl) rfl rfl rfl ?_
  refine Seq.val (Runs.assign rfl rfl) rfl rfl rfl ?_
  refine Seq.nil ?_
  refine Post.weak (F' := [(3, _), (4, _), (6, _), (7, _), (8, _), (28, _), (56, _), (65, _), (74, _), (82, _), (88, _), (92, _), (96, _)]) ⟨rfl, rfl, rfl, rfl, rfl, rfl, rfl, rfl, rfl, rfl, rfl, rfl, rfl, trivial⟩ ?_
  refine Post.then_ ?_
  refine Cd.condD rfl (fun c21 => ?_) (fun c21 => ?_)
  · have hb : bindT e.op = ([], 7) := by rw [c21]; rfl
    rw [if_neg (by rw [hb]; decide), if_neg (by rw [hb]; decide), if_neg (by rw [hb]; decide), if_neg c9, if_neg c10, snd_pairT] at hT
    refine Cd.region ?_
    refine Seq.val (Runs.move rfl rfl) rfl rfl rfl ?_
    refine Seq.call (Enters.value (first := []) (cap := [.pointer (some ⟨g3, 0, none⟩), .pointer (some ⟨g4, 0, none⟩)]) rfl rfl rfl eg_args) rfl rfl rfl (exprArgs_of B g (bs.length + 60000) g3 g4 c A e [105, 102] bs0 w _ hrec (wt.to hBW) k3 k4 wr (by omega) (by omega) (by decide) (by decide) hargs (by omega) hjl) ?_
    clear wr
    rintro en w9 ⟨⟨_, rfl⟩, f9, wr⟩
    refine ⟨_, rfl, ?_⟩
    replace wt := wt.wt f9
    refine Seq.nil ?_
    refine Post.weak (F' := [(3, _), (4, _), (6, _), (7, _), (8, _), (28, _), (56, _), (65, _), (74, _), (82, _), (88, _), (92, _), (96, _)]) ⟨rfl, rfl, rfl, rfl, rfl, rfl, rfl, rfl, rfl, rfl, rfl, rfl, rfl, trivial⟩ ?_
    refine Post.block_normal ?_
    refine Post.weak (F' := []) trivial ?_
    exact hend _ _ (.inr rfl) wt (by rw [hT]; simpa only [List.append_assoc, List.cons_append, List.nil_append] using wr)
  refine Cd.seq ?_
  refine Cd.seq ?_
  refine Cd.region ?_
  refine Seq.val (Runs.eqlI rfl rfl rfl) rfl rfl rfl ?_
  refine Seq.val (Runs.assign rfl rfl) rfl rfl rfl ?_
  refine Seq.nil ?_
  refine Post.weak (F' := [(3, _), (4, _), (6, _), (7, _), (8, _), (28, _), (56, _), (65, _), (74, _), (82, _), (88, _), (92, _), (96, _), (100, _)]) ⟨rfl, rfl, rfl, rfl, rfl, rfl, rfl, rfl, rfl, rfl, rfl, rfl, rfl, rfl, trivial⟩ ?_
  refine Post.then_ ?_
  refine Cd.condD rfl (fun c19 => ?_) (fun c19 => ?_)
  · skip
    refine Cd.skip ?_
    refine Post.then_ ?_
    refine Cd.condT rfl (decide_eq_true c19) ?_
    have hb : (bindT e.op).2 = 6 := by rw [c19]; rfl
    have hlen1 : e.args.length = 1 := o5 (by omega)
    obtain ⟨x, hx⟩ : ∃ x, e.args = [x] := List.length_eq_one_iff.1 hlen1
    obtain ⟨ad, A0, A0', rfl, hcx, hcallx⟩ := hrec 0 x (by rw [hx]; rfl)
    rw [if_pos hb, hx, show ([x].map pairT).getD 0 (7, []) = pairT x from rfl] at hT
    refine Cd.seq ?_
    refine Cd.region ?_
    refine Seq.val (Runs.loadB rfl rfl Try.underlying77 rfl k3 rfl) rfl rfl rfl ?_
    refine Seq.val (Runs.nilCheck rfl rfl) rfl rfl rfl ?_
    refine Seq.val (Runs.fieldB 0 rfl rfl Try.underlying112 rfl (by kernel_rfl)) rfl rfl rfl ?_
    refine Seq.val (Runs.move rfl rfl) rfl rfl rfl ?_
    refine Seq.call (Enters.func rfl rfl rfl (run_enter Try.func78 (by kernel_rfl) rfl)) rfl rfl rfl ((writeS_both B g (bindT e.op).1 bs0 _ wr b2 (by omega)).1) ?_
    clear wr
    rintro e w3 ⟨⟨_, rfl⟩, fw3, wr⟩
    refine ⟨_, rfl, ?_⟩
    replace wt := wt.wt fw3
    replace k3 := k3.wt fw3
    replace k4 := k4.wt fw3
    refine Seq.nil ?_
    refine Post.weak (F' := [(3, _), (4, _), (6, _), (7, _), (8, _), (28, _), (56, _), (65, _), (74, _), (82, _), (88, _), (92, _), (96, _), (100, _)]) ⟨rfl, rfl, rfl, rfl, rfl, rfl, rfl, rfl, rfl, rfl, rfl, rfl, rfl, rfl, trivial⟩ ?_
    refine Post.then_ ?_
    refine Cd.draw 5 (by kernel_rfl) [] (.inl rfl) rfl Grow Grow.refl (fun _ _ _ => Grow.trans) ?_
    intro w4 hw4 zw4
    replace wt := wt.step hw4
    replace wr := wr.step hw4
    replace k3 := k3.step hw4
    replace k4 := k4.step hw4
    have zlt := k4.lt
    refine Dr.val Grow.refl rfl (fun w hG => Runs.loadB rfl rfl Try.underlying77 rfl (k3.step hG) rfl) rfl ?_
    refine Dr.val Grow.refl rfl (fun w hG => Runs.fieldB 3 rfl rfl Try.underlying35 rfl (by kernel_rfl)) rfl ?_
    refine Dr.val Grow.refl rfl (fun w hG => Runs.loadB rfl rfl Try.underlying25 rfl (k4.step hG) rfl) rfl ?_
    refine Dr.val Grow.refl rfl (fun w hG => Runs.indexN rfl rfl rfl Try.underlying25 (s := 4) (by kernel_rfl) (j := 0) rfl (by omega)) rfl ?_
    refine Dr.val Grow.refl rfl (fun w hG => Runs.loadF (ps := [.int .i64 x.op, .int .i64 x.n, .string (strOf x.name), .slice A0 x.args.length A0']) rfl rfl Try.underlying35 rfl (m := 4) (by kernel_rfl) rfl (hcx _ ((wt.to hBW).trans (hG.mono wr.size)))) rfl ?_
    refine Dr.nil ?_
    refine FinX.done (F' := [(3, _), (4, _), (6, _), (7, _), (8, _), (28, _), (56, _), (65, _), (74, _), (82, _), (88, _), (92, _), (96, _), (100, _), (108, _), (112, _)]) rfl ⟨rfl, rfl, rfl, rfl, rfl, rfl, rfl, rfl, rfl, rfl, rfl, rfl, rfl, rfl, rfl, rfl, trivial⟩ ?_
    intro w5 hw5 fw5
    replace wt := wt.step hw5
    replace wr := wr.step hw5
    replace k3 := k3.step hw5
    replace k4 := k4.step hw5
    refine Seq.call (Enters.func rfl rfl rfl (run_enter Try.func43 (by kernel_rfl) rfl)) rfl rfl rfl (hcallx _ _ 6 (wt.to hBW) wr (by unfold I64; omega) (by rw [List.length_append]; omega)) ?_
    clear wr
    rintro e w6 ⟨⟨_, rfl⟩, fw6, wr⟩
    refine ⟨_, rfl, ?_⟩
    replace wt := wt.wt fw6
    refine Seq.nil ?_
    refine Post.weak (F' := [(3, _), (4, _), (6, _), (7, _), (8, _), (28, _), (56, _), (65, _), (74, _), (82, _), (88, _), (92, _), (96, _), (100, _)]) ⟨rfl, rfl, rfl, rfl, rfl, rfl, rfl, rfl, rfl, rfl, rfl, rfl, rfl, rfl, trivial⟩ ?_
    refine Post.block_normal ?_
    refine Post.weak (F' := []) trivial ?_
    exact hend _ _ (.inr rfl) wt (by rw [hT]; simpa only [List.append_assoc, inT] using wr)
  refine Cd.region ?_
  refine Seq.val (Runs.eqlI rfl rfl rfl) rfl rfl rfl ?_
  refine Seq.val (Runs.assign rfl rfl) rfl rfl rfl ?_
  refine Seq.nil ?_
  refine Post.weak (F' := [(3, _), (4, _), (6, _), (7, _), (8, _), (28, _), (56, _), (65, _), (74, _), (82, _), (88, _), (92, _), (96, _), (100, _)]) ⟨rfl, rfl, rfl, rfl, rfl, rfl, rfl, rfl, rfl, rfl, rfl, rfl, rfl, rfl, trivial⟩ ?_
  refine Post.then_ ?_
  refine Cd.condD rfl (fun c20 => ?_) (fun c20 => ?_)
  · skip
    have hb : (bindT e.op).2 = 6 := by rw [c20]; rfl
    have hlen1 : e.args.length = 1 := o5 (by omega)
    obtain ⟨x, hx⟩ : ∃ x, e.args = [x] := List.length_eq_one_iff.1 hlen1
    obtain ⟨ad, A0, A0', rfl, hcx, hcallx⟩ := hrec 0 x (by rw [hx]; rfl)
    rw [if_pos hb, hx, show ([x].map pairT).getD 0 (7, []) = pairT x from rfl] at hT
    refine Cd.seq ?_
    refine Cd.region ?_
    refine Seq.val (Runs.loadB rfl rfl Try.underlying77 rfl k3 rfl) rfl rfl rfl ?_
    refine Seq.val (Runs.nilCheck rfl rfl) rfl rfl rfl ?_
    refine Seq.val (Runs.fieldB 0 rfl rfl Try.underlying112 rfl (by kernel_rfl)) rfl rfl rfl ?_
    refine Seq.val (Runs.move rfl rfl) rfl rfl rfl ?_
    refine Seq.call (Enters.func rfl rfl rfl (run_enter Try.func78 (by kernel_rfl) rfl)) rfl rfl rfl ((writeS_both B g (bindT e.op).1 bs0 _ wr b2 (by omega)).1) ?_
    clear wr
    rintro e w3 ⟨⟨_, rfl⟩, fw3, wr⟩
    refine ⟨_, rfl, ?_⟩
    replace wt := wt.wt fw3
    replace k3 := k3.wt fw3
    replace k4 := k4.wt fw3
    refine Seq.nil ?_
    refine Post.weak (F' := [(3, _), (4, _), (6, _), (7, _), (8, _), (28, _), (56, _), (65, _), (74, _), (82, _), (88, _), (92, _), (96, _), (100, _)]) ⟨rfl, rfl, rfl, rfl, rfl, rfl, rfl, rfl, rfl, rfl, rfl, rfl, rfl, rfl, trivial⟩ ?_
    refine Post.then_ ?_
    refine Cd.draw 5 (by kernel_rfl) [] (.inl rfl) rfl Grow Grow.refl (fun _ _ _ => Grow.trans) ?_
    intro w4 hw4 zw4
    replace wt := wt.step hw4
    replace wr := wr.step hw4
    replace k3 := k3.step hw4
    replace k4 := k4.step hw4
    have zlt := k4.lt
    refine Dr.val Grow.refl rfl (fun w hG => Runs.loadB rfl rfl Try.underlying77 rfl (k3.step hG) rfl) rfl ?_
    refine Dr.val Grow.refl rfl (fun w hG => Runs.fieldB 3 rfl rfl Try.underlying35 rfl (by kernel_rfl)) rfl ?_
    refine Dr.val Grow.refl rfl (fun w hG => Runs.loadB rfl rfl Try.underlying25 rfl (k4.step hG) rfl) rfl ?_
    refine Dr.val Grow.refl rfl (fun w hG => Runs.indexN rfl rfl rfl Try.underlying25 (s := 4) (by kernel_rfl) (j := 0) rfl (by omega)) rfl ?_
    refine Dr.val Grow.refl rfl (fun w hG => Runs.loadF (ps := [.int .i64 x.op, .int .i64 x.n, .string (strOf x.name), .slice A0 x.args.length A0']) rfl rfl Try.underlying35 rfl (m := 4) (by kernel_rfl) rfl (hcx _ ((wt.to hBW).trans (hG.mono wr.size)))) rfl ?_
    refine Dr.nil ?_
    refine FinX.done (F' := [(3, _), (4, _), (6, _), (7, _), (8, _), (28, _), (56, _), (65, _), (74, _), (82, _), (88, _), (92, _), (96, _), (100, _), (108, _), (112, _)]) rfl ⟨rfl, rfl, rfl, rfl, rfl, rfl, rfl, rfl, rfl, rfl, rfl, rfl, rfl, rfl, rfl, rfl, trivial⟩ ?_
    intro w5 hw5 fw5
    replace wt := wt.step hw5
    replace wr := wr.step hw5
    replace k3 := k3.step hw5
    replace k4 := k4.step hw5
    refine Seq.call (Enters.func rfl rfl rfl (run_enter Try.func43 (by kernel_rfl) rfl)) rfl rfl rfl (hcallx _ _ 6 (wt.to hBW) wr (by unfold I64; omega) (by rw [List.length_append]; omega)) ?_
    clear wr
    rintro e w6 ⟨⟨_, rfl⟩, fw6, wr⟩
    refine ⟨_, rfl, ?_⟩
    replace wt := wt.wt fw6
    refine Seq.nil ?_
    refine Post.weak (F' := [(3, _), (4, _), (6, _), (7, _), (8, _), (28, _), (56, _), (65, _), (74, _), (82, _), (88, _), (92, _), (96, _), (100, _)]) ⟨rfl, rfl, rfl, rfl, rfl, rfl, rfl, rfl, rfl, rfl, rfl, rfl, rfl, rfl, trivial⟩ ?_
    refine Post.block_normal ?_
    refine Post.weak (F' := []) trivial ?_
    exact hend _ _ (.inr rfl) wt (by rw [hT]; simpa only [List.append_assoc, inT] using wr)
  have hop : e.op = 5 ∨ e.op = 6 ∨ e.op = 7 ∨ e.op = 8 ∨ e.op = 11 ∨ e.op = 12 ∨ e.op = 13 ∨ e.op = 14 ∨ e.op = 15 ∨ e.op = 16 ∨ e.op = 17 ∨ e.op = 18 := by omega
  have hp : (bindT e.op).2 < 6 := by rcases hop with h | h | h | h | h | h | h | h | h | h | h | h <;> rw [h] <;> decide
  have hlen2 : e.args.length = 2 := o4 (by omega) (by omega)
  obtain ⟨x, y, hxy⟩ : ∃ x y, e.args = [x, y] := by
    cases h : e.args with
    | nil => rw [h] at hlen2; simp at hlen2
    | cons x r => cases r with
      | nil => rw [h] at hlen2; simp at hlen2
      | cons y r => cases r with
        | nil => exact ⟨x, y, rfl⟩
        | cons z r => rw [h] at hlen2; simp at hlen2
  obtain ⟨ad, A0, A0', rfl, hcx, hcallx⟩ := hrec 0 x (by rw [hxy]; rfl)
  obtain ⟨ad', A1, A1', had, hcy, hcally⟩ := hrec 1 y (by rw [hxy]; rfl)
  injection had with had
  subst had
  have hil : ∀ l, (inT x l).length ≤ 20000 := fun l => by
    have h1 := (parT_len l (pairT x)).1
    have e1 : (pairT x).2 = exprT x := rfl
    have h2 := (exprT_bd x.nodes x (Nat.le_refl _) (hargs x (by rw [hxy]; exact List.mem_cons_self))).1
    have h3 : x.nodes < e.nodes := Ex.arg_nodes (by rw [hxy]; exact List.mem_cons_self)
    rw [e1] at h1
    unfold inT
    omega
  rw [if_neg (by omega), hxy, show ([x, y].map pairT).getD 0 (7, []) = pairT x from rfl, show ([x, y].map pairT).getD 1 (7, []) = pairT y from rfl] at hT
  refine Cd.seq ?_
  refine Cd.region ?_
  refine Seq.val (Runs.move rfl rfl) rfl rfl rfl ?_
  refine Seq.val (Runs.assign rfl rfl) rfl rfl rfl ?_
  refine Seq.nil ?_
  refine Post.weak (F' := [(3, _), (4, _), (6, _), (7, _), (8, _), (9, _), (28, _), (56, _), (65, _), (74, _), (82, _), (88, _), (92, _), (96, _), (100, _)]) ⟨rfl, rfl, rfl, rfl, rfl, rfl, rfl, rfl, rfl, rfl, rfl, rfl, rfl, rfl, rfl, trivial⟩ ?_
  refine Post.then_ ?_
  refine Cd.seq ?_
  refine Cd.seq ?_
  refine Cd.region ?_
  refine Seq.val (Runs.move rfl rfl) rfl rfl rfl ?_
  refine Seq.val (Runs.eqlI rfl rfl rfl) rfl rfl rfl ?_
  refine Seq.nil ?_
  refine Post.weak (F' := [(3, _), (4, _), (6, _), (7, _), (8, _), (9, _), (28, _), (31, _), (56, _), (65, _), (74, _), (82, _), (88, _), (92, _), (96, _), (100, _)]) ⟨rfl, rfl, rfl, rfl, rfl, rfl, rfl, rfl, rfl, rfl, rfl, rfl, rfl, rfl, rfl, rfl, trivial⟩ ?_
  refine Post.then_ ?_
  refine Cd.condD rfl (fun c3' => ?_) (fun c3' => ?_)
  · rw [if_pos c3', show (4 : Int) = (bindT e.op).2 + 1 by omega] at hT
    refine Cd.region ?_
    refine Seq.val (Runs.move rfl rfl) rfl rfl rfl ?_
    refine Seq.val (Runs.addI rfl rfl rfl (by omega) (by omega)) rfl rfl rfl ?_
    refine Seq.val (Runs.assign rfl rfl) rfl rfl rfl ?_
    refine Seq.nil ?_
    refine Post.weak (F' := [(3, _), (4, _), (6, _), (7, _), (8, _), (9, _), (28, _), (31, _), (56, _), (65, _), (74, _), (82, _), (88, _), (92, _), (96, _), (100, _)]) ⟨rfl, rfl, rfl, rfl, rfl, rfl, rfl, rfl, rfl, rfl, rfl, rfl, rfl, rfl, rfl, rfl, trivial⟩ ?_
    refine Post.then_ ?_
    refine Cd.seq ?_
    refine Cd.draw 6 (by kernel_rfl) [] (.inl rfl) rfl Grow Grow.refl (fun _ _ _ => Grow.trans) ?_
    intro w3 hw3 zw3
    replace wt := wt.step hw3
    replace wr := wr.step hw3
    replace k3 := k3.step hw3
    replace k4 := k4.step hw3
    have zlt := k4.lt
    refine Dr.val Grow.refl rfl (fun w hG => Runs.loadB rfl rfl Try.underlying77 rfl (k3.step hG) rfl) rfl ?_
    refine Dr.val Grow.refl rfl (fun w hG => Runs.fieldB 3 rfl rfl Try.underlying35 rfl (by kernel_rfl)) rfl ?_
    refine Dr.val Grow.refl rfl (fun w hG => Runs.loadB rfl rfl Try.underlying25 rfl (k4.step hG) rfl) rfl ?_
    refine Dr.val Grow.refl rfl (fun w hG => Runs.indexN rfl rfl rfl Try.underlying25 (s := 4) (by kernel_rfl) (j := 0) rfl (by omega)) rfl ?_
    refine Dr.val Grow.refl rfl (fun w hG => Runs.loadF (ps := [.int .i64 x.op, .int .i64 x.n, .string (strOf x.name), .slice A0 x.args.length A0']) rfl rfl Try.underlying35 rfl (m := 4) (by kernel_rfl) rfl (hcx _ ((wt.to hBW).trans (hG.mono wr.size)))) rfl ?_
    refine Dr.val Grow.refl rfl (fun w hG => Runs.move rfl rfl) rfl ?_
    refine Dr.nil ?_
    refine FinX.done (F' := [(3, _), (4, _), (6, _), (7, _), (8, _), (9, _), (28, _), (31, _), (34, _), (38, _), (39, _), (56, _), (65, _), (74, _), (82, _), (88, _), (92, _), (96, _), (100, _)]) rfl ⟨rfl, rfl, rfl, rfl, rfl, rfl, rfl, rfl, rfl, rfl, rfl, rfl, rfl, rfl, rfl, rfl, rfl, rfl, rfl, trivial⟩ ?_
    intro w4 hw4 fw4
    replace wt := wt.step hw4
    replace wr := wr.step hw4
    replace k3 := k3.step hw4
    replace k4 := k4.step hw4
    refine Seq.call (Enters.func rfl rfl rfl (run_enter Try.func43 (by kernel_rfl) rfl)) rfl rfl rfl (hcallx _ _ ((bindT e.op).2 + 1) (wt.to hBW) wr (by unfold I64; omega) (by omega)) ?_
    clear wr
    rintro e w5 ⟨⟨_, rfl⟩, fw5, wr⟩
    refine ⟨_, rfl, ?_⟩
    replace wt := wt.wt fw5
    replace k3 := k3.wt fw5
    replace k4 := k4.wt fw5
    refine Seq.nil ?_
    refine Post.weak (F' := [(3, _), (4, _), (6, _), (7, _), (8, _), (9, _), (28, _), (31, _), (56, _), (65, _), (74, _), (82, _), (88, _), (92, _), (96, _), (100, _)]) ⟨rfl, rfl, rfl, rfl, rfl, rfl, rfl, rfl, rfl, rfl, rfl, rfl, rfl, rfl, rfl, rfl, trivial⟩ ?_
    refine Post.then_ ?_
    refine Cd.seq ?_
    refine Cd.region ?_
    refine Seq.val (Runs.loadB rfl rfl Try.underlying77 rfl k3 rfl) rfl rfl rfl ?_
    refine Seq.val (Runs.nilCheck rfl rfl) rfl rfl rfl ?_
    refine Seq.val (Runs.fieldB 0 rfl rfl Try.underlying112 rfl (by kernel_rfl)) rfl rfl rfl ?_
    refine Seq.val (Runs.move rfl rfl) rfl rfl rfl ?_
    refine Seq.val (Runs.addL (a := [32]) rfl rfl rfl (by simp only [List.length_cons, List.length_nil]; omega)) rfl rfl rfl ?_
    refine Seq.val (Runs.addL (b := [32]) rfl rfl rfl (by simp only [List.length_append, List.length_cons, List.length_nil]; omega)) rfl rfl rfl ?_
    have i0 := hil ((bindT e.op).2 + 1)
    refine Seq.call (Enters.func rfl rfl rfl (run_enter Try.func78 (by kernel_rfl) rfl)) rfl rfl rfl ((writeS_both B g ([32] ++ (bindT e.op).1 ++ [32]) _ _ wr (bt3 (by decide) b2 (by decide)) (by simp only [List.length_append, List.length_cons, List.length_nil]; omega)).1) ?_
    clear wr
    rintro e w6 ⟨⟨_, rfl⟩, fw6, wr⟩
    refine ⟨_, rfl, ?_⟩
    replace wt := wt.wt fw6
    replace k3 := k3.wt fw6
    replace k4 := k4.wt fw6
    refine Seq.nil ?_
    refine Post.weak (F' := [(3, _), (4, _), (6, _), (7, _), (8, _), (9, _), (28, _), (31, _), (56, _), (65, _), (74, _), (82, _), (88, _), (92, _), (96, _), (100, _)]) ⟨rfl, rfl, rfl, rfl, rfl, rfl, rfl, rfl, rfl, rfl, rfl, rfl, rfl, rfl, rfl, rfl, trivial⟩ ?_
    refine Post.then_ ?_
    refine Cd.draw 7 (by kernel_rfl) [] (.inl rfl) rfl Grow Grow.refl (fun _ _ _ => Grow.trans) ?_
    intro w7 hw7 zw7
    replace wt := wt.step hw7
    replace wr := wr.step hw7
    replace k3 := k3.step hw7
    replace k4 := k4.step hw7
    have zlt := k4.lt
    refine Dr.val Grow.refl rfl (fun w hG => Runs.loadB rfl rfl Try.underlying77 rfl (k3.step hG) rfl) rfl ?_
    refine Dr.val Grow.refl rfl (fun w hG => Runs.fieldB 3 rfl rfl Try.underlying35 rfl (by kernel_rfl)) rfl ?_
    refine Dr.val Grow.refl rfl (fun w hG => Runs.loadB rfl rfl Try.underlying25 rfl (k4.step hG) rfl) rfl ?_
    refine Dr.val Grow.refl rfl (fun w hG => Runs.indexN rfl rfl rfl Try.underlying25 (s := 4) (by kernel_rfl) (j := 1) rfl (by omega)) rfl ?_
    refine Dr.val Grow.refl rfl (fun w hG => Runs.loadF (ps := [.int .i64 y.op, .int .i64 y.n, .string (strOf y.name), .slice A1 y.args.length A1']) rfl rfl Try.underlying35 rfl (m := 4) (by kernel_rfl) rfl (hcy _ ((wt.to hBW).trans (hG.mono wr.size)))) rfl ?_
    refine Dr.val Grow.refl rfl (fun w hG => Runs.move rfl rfl) rfl ?_
    refine Dr.val Grow.refl rfl (fun w hG => Runs.addI rfl rfl rfl (by omega) (by omega)) rfl ?_
    refine Dr.nil ?_
    refine FinX.done (F' := [(3, _), (4, _), (6, _), (7, _), (8, _), (9, _), (28, _), (31, _), (48, _), (52, _), (54, _), (56, _), (65, _), (74, _), (82, _), (88, _), (92, _), (96, _), (100, _)]) rfl ⟨rfl, rfl, rfl, rfl, rfl, rfl, rfl, rfl, rfl, rfl, rfl, rfl, rfl, rfl, rfl, rfl, rfl, rfl, rfl, trivial⟩ ?_
    intro w8 hw8 fw8
    replace wt := wt.step hw8
    replace wr := wr.step hw8
    replace k3 := k3.step hw8
    replace k4 := k4.step hw8
    refine Seq.call (Enters.func rfl rfl rfl (run_enter Try.func43 (by kernel_rfl) rfl)) rfl rfl rfl (hcally _ _ ((bindT e.op).2 + 1) (wt.to hBW) wr (by unfold I64; omega) (by simp only [List.length_append, List.length_cons, List.length_nil]; omega)) ?_
    clear wr
    rintro e w9 ⟨⟨_, rfl⟩, fw9, wr⟩
    refine ⟨_, rfl, ?_⟩
    replace wt := wt.wt fw9
    refine Seq.nil ?_
    refine Post.weak (F' := [(3, _), (4, _), (6, _), (7, _), (8, _), (9, _), (28, _), (31, _), (56, _), (65, _), (74, _), (82, _), (88, _), (92, _), (96, _), (100, _)]) ⟨rfl, rfl, rfl, rfl, rfl, rfl, rfl, rfl, rfl, rfl, rfl, rfl, rfl, rfl, rfl, rfl, trivial⟩ ?_
    refine Post.block_normal ?_
    refine Post.weak (F' := []) trivial ?_
    exact hend _ _ (.inr rfl) wt (by rw [hT]; simpa only [List.append_assoc, inT] using wr)
  · rw [if_neg c3', if_pos hp] at hT
    refine Cd.skip ?_
    refine Post.then_ ?_
    refine Cd.seq ?_
    refine Cd.draw 6 (by kernel_rfl) [] (.inl rfl) rfl Grow Grow.refl (fun _ _ _ => Grow.trans) ?_
    intro w3 hw3 zw3
    replace wt := wt.step hw3
    replace wr := wr.step hw3
    replace k3 := k3.step hw3
    replace k4 := k4.step hw3
    have zlt := k4.lt
    refine Dr.val Grow.refl rfl (fun w hG => Runs.loadB rfl rfl Try.underlying77 rfl (k3.step hG) rfl) rfl ?_
    refine Dr.val Grow.refl rfl (fun w hG => Runs.fieldB 3 rfl rfl Try.underlying35 rfl (by kernel_rfl)) rfl ?_
    refine Dr.val Grow.refl rfl (fun w hG => Runs.loadB rfl rfl Try.underlying25 rfl (k4.step hG) rfl) rfl ?_
    refine Dr.val Grow.refl rfl (fun w hG => Runs.indexN rfl rfl rfl Try.underlying25 (s := 4) (by kernel_rfl) (j := 0) rfl (by omega)) rfl ?_
    refine Dr.val Grow.refl rfl (fun w hG => Runs.loadF (ps := [.int .i64 x.op, .int .i64 x.n, .string (strOf x.name), .slice A0 x.args.length A0']) rfl rfl Try.underlying35 rfl (m := 4) (by kernel_rfl) rfl (hcx _ ((wt.to hBW).trans (hG.mono wr.size)))) rfl ?_
    refine Dr.val Grow.refl rfl (fun w hG => Runs.move rfl rfl) rfl ?_
    refine Dr.nil ?_
    refine FinX.done (F' := [(3, _), (4, _), (6, _), (7, _), (8, _), (9, _), (28, _), (31, _), (34, _), (38, _), (39, _), (56, _), (65, _), (74, _), (82, _), (88, _), (92, _), (96, _), (100, _)]) rfl ⟨rfl, rfl, rfl, rfl, rfl, rfl, rfl, rfl, rfl, rfl, rfl, rfl, rfl, rfl, rfl, rfl, rfl, rfl, rfl, trivial⟩ ?_
    intro w4 hw4 fw4
    replace wt := wt.step hw4
    replace wr := wr.step hw4
    replace k3 := k3.step hw4
    replace k4 := k4.step hw4
    refine Seq.call (Enters.func rfl rfl rfl (run_enter Try.func43 (by kernel_rfl) rfl)) rfl rfl rfl (hcallx _ _ (bindT e.op).2 (wt.to hBW) wr (by unfold I64; omega) (by omega)) ?_
    clear wr
    rintro e w5 ⟨⟨_, rfl⟩, fw5, wr⟩
    refine ⟨_, rfl, ?_⟩
    replace wt := wt.wt fw5
    replace k3 := k3.wt fw5
    replace k4 := k4.wt fw5
    refine Seq.nil ?_
    refine Post.weak (F' := [(3, _), (4, _), (6, _), (7, _), (8, _), (9, _), (28, _), (31, _), (56, _), (65, _), (74, _), (82, _), (88, _), (92, _), (96, _), (100, _)]) ⟨rfl, rfl, rfl, rfl, rfl, rfl, rfl, rfl, rfl, rfl, rfl, rfl, rfl, rfl, rfl, rfl, trivial⟩ ?_
    refine Post.then_ ?_
    refine Cd.seq ?_
    refine Cd.region ?_
    refine Seq.val (Runs.loadB rfl rfl Try.underlying77 rfl k3 rfl) rfl rfl rfl ?_
    refine Seq.val (Runs.nilCheck rfl rfl) rfl rfl rfl ?_
    refine Seq.val (Runs.fieldB 0 rfl rfl Try.underlying112 rfl (by kernel_rfl)) rfl rfl rfl ?_
    refine Seq.val (Runs.move rfl rfl) rfl rfl rfl ?_
    refine Seq.val (Runs.addL (a := [32]) rfl rfl rfl (by simp only [List.length_cons, List.length_nil]; omega)) rfl rfl rfl ?_
    refine Seq.val (Runs.addL (b := [32]) rfl rfl rfl (by simp only [List.length_append, List.length_cons, List.length_nil]; omega)) rfl rfl rfl ?_
    have i0 := hil (bindT e.op).2
    refine Seq.call (Enters.func rfl rfl rfl (run_enter Try.func78 (by kernel_rfl) rfl)) rfl rfl rfl ((writeS_both B g ([32] ++ (bindT e.op).1 ++ [32]) _ _ wr (bt3 (by decide) b2 (by decide)) (by simp only [List.length_append, List.length_cons, List.length_nil]; omega)).1) ?_
    clear wr
    rintro e w6 ⟨⟨_, rfl⟩, fw6, wr⟩
    refine ⟨_, rfl, ?_⟩
    replace wt := wt.wt fw6
    replace k3 := k3.wt fw6
    replace k4 := k4.wt fw6
    refine Seq.nil ?_
    refine Post.weak (F' := [(3, _), (4, _), (6, _), (7, _), (8, _), (9, _), (28, _), (31, _), (56, _), (65, _), (74, _), (82, _), (88, _), (92, _), (96, _), (100, _)]) ⟨rfl, rfl, rfl, rfl, rfl, rfl, rfl, rfl, rfl, rfl, rfl, rfl, rfl, rfl, rfl, rfl, trivial⟩ ?_
    refine Post.then_ ?_
    refine Cd.draw 7 (by kernel_rfl) [] (.inl rfl) rfl Grow Grow.refl (fun _ _ _ => Grow.trans) ?_
    intro w7 hw7 zw7
    replace wt := wt.step hw7
    replace wr := wr.step hw7
    replace k3 := k3.step hw7
    replace k4 := k4.step hw7
    have zlt := k4.lt
    refine Dr.val Grow.refl rfl (fun w hG => Runs.loadB rfl rfl Try.underlying77 rfl (k3.step hG) rfl) rfl ?_
    refine Dr.val Grow.refl rfl (fun w hG => Runs.fieldB 3 rfl rfl Try.underlying35 rfl (by kernel_rfl)) rfl ?_
    refine Dr.val Grow.refl rfl (fun w hG => Runs.loadB rfl rfl Try.underlying25 rfl (k4.step hG) rfl) rfl ?_
    refine Dr.val Grow.refl rfl (fun w hG => Runs.indexN rfl rfl rfl Try.underlying25 (s := 4) (by kernel_rfl) (j := 1) rfl (by omega)) rfl ?_
    refine Dr.val Grow.refl rfl (fun w hG => Runs.loadF (ps := [.int .i64 y.op, .int .i64 y.n, .string (strOf y.name), .slice A1 y.args.length A1']) rfl rfl Try.underlying35 rfl (m := 4) (by kernel_rfl) rfl (hcy _ ((wt.to hBW).trans (hG.mono wr.size)))) rfl ?_
    refine Dr.val Grow.refl rfl (fun w hG => Runs.move rfl rfl) rfl ?_
    refine Dr.val Grow.refl rfl (fun w hG => Runs.addI rfl rfl rfl (by omega) (by omega)) rfl ?_
    refine Dr.nil ?_
    refine FinX.done (F' := [(3, _), (4, _), (6, _), (7, _), (8, _), (9, _), (28, _), (31, _), (48, _), (52, _), (54, _), (56, _), (65, _), (74, _), (82, _), (88, _), (92, _), (96, _), (100, _)]) rfl ⟨rfl, rfl, rfl, rfl, rfl, rfl, rfl, rfl, rfl, rfl, rfl, rfl, rfl, rfl, rfl, rfl, rfl, rfl, rfl, trivial⟩ ?_
    intro w8 hw8 fw8
    replace wt := wt.step hw8
    replace wr := wr.step hw8
    replace k3 := k3.step hw8
    replace k4 := k4.step hw8
    refine Seq.call (Enters.func rfl rfl rfl (run_enter Try.func43 (by kernel_rfl) rfl)) rfl rfl rfl (hcally _ _ ((bindT e.op).2 + 1) (wt.to hBW) wr (by unfold I64; omega) (by simp only [List.length_append, List.length_cons, List.length_nil]; omega)) ?_
    clear wr
    rintro e w9 ⟨⟨_, rfl⟩, fw9, wr⟩
    refine ⟨_, rfl, ?_⟩
    replace wt := wt.wt fw9
    refine Seq.nil ?_
    refine Post.weak (F' := [(3, _), (4, _), (6, _), (7, _), (8, _), (9, _), (28, _), (31, _), (56, _), (65, _), (74, _), (82, _), (88, _), (92, _), (96, _), (100, _)]) ⟨rfl, rfl, rfl, rfl, rfl, rfl, rfl, rfl, rfl, rfl, rfl, rfl, rfl, rfl, rfl, rfl, trivial⟩ ?_
    refine Post.block_normal ?_
    refine Post.weak (F' := []) trivial ?_
    exact hend _ _ (.inr rfl) wt (by rw [hT]; simpa only [List.append_assoc, inT] using wr)
end Go.Proofs.Ytijaldpmpjapiaa
namespace Go.Proofs.Ytijaldpmpjapiaa
open Go.RowKit

def prText (right : Bool) (T : List Nat) : List Nat × Int := if right = false then ([], 1) else if 4000 < T.length then ([], 4) else (T, 0)
theorem run_build_writer (w : World) : (Instr.build 112 #[]).run Try.prog w = .ok (.agg #[.pointer none, .slice none 0 0]) w := by kernel_rfl
theorem printed_any (right : Bool) (T : List Nat) (f : Nat) (cp : List Value) (w : World) (eg : ∀ args w, (callFunc f args).run Try.prog w = .ok (.enter f args) w) (hTl : T.length ≤ 1000000)
    (hw : right = true → ∀ W g, Below w.heap.size w W → Bw W w.heap.size g [] → Calls Try.prog f ([] ++ [Value.pointer (some ⟨g, 0, none⟩)] ++ cp).toArray W (WrRet w.heap.size g T W)) :
    Calls Try.prog 40 #[.bool right, .func (.func f) #[] cp.toArray] w fun e w' => e = .returned (.tuple #[.string (strOf (prText right T).1), .int .i64 (prText right T).2]) ∧ Grow w w' := by
  have bel := Below.refl w.heap.size w
  unfold prText
  refine Calls.start 23 Try.func40 rfl rfl rfl ?_
  refine Cd.seq ?_
  refine Cd.region ?_
  refine Seq.val (Runs.assign rfl rfl) rfl rfl rfl ?_
  refine Seq.val (Runs.assign rfl rfl) rfl rfl rfl ?_
  refine Seq.nil ?_
  refine Post.weak (F' := [(0, _), (1, _), (4, _), (5, _)]) ⟨rfl, rfl, rfl, rfl, trivial⟩ ?_
  refine Post.then_ ?_
  refine Cd.seq ?_
  refine Cd.seq ?_
  refine Cd.region ?_
  refine Seq.val (Runs.move rfl rfl) rfl rfl rfl ?_
  refine Seq.val (Runs.not rfl rfl) rfl rfl rfl ?_
  refine Seq.nil ?_
  refine Post.weak (F' := [(0, _), (1, _), (4, _), (5, _), (8, _)]) ⟨rfl, rfl, rfl, rfl, rfl, trivial⟩ ?_
  refine Post.then_ ?_
  refine Cd.cond rfl (fun hc => ?_) (fun hc => ?_)
  · obtain rfl : right = false := by simpa using hc
    refine Cd.seq ?_
    refine Cd.region ?_
    refine Seq.val (Runs.assign rfl rfl) rfl rfl rfl ?_
    refine Seq.val (Runs.assign rfl rfl) rfl rfl rfl ?_
    refine Seq.nil ?_
    refine Post.weak (F' := [(0, _), (1, _), (4, _), (5, _), (8, _)]) ⟨rfl, rfl, rfl, rfl, rfl, trivial⟩ ?_
    refine Post.then_ ?_
    refine Cd.ret ?_
    refine Post.then_ret ?_
    refine Post.end2 rfl rfl rfl (.inl rfl) ?_
    exact ⟨rfl, bel⟩
  · obtain rfl : right = true := by simpa using hc
    have hw := hw rfl
    refine Cd.skip ?_
    refine Post.then_ ?_
    refine Cd.seq ?_
    refine Cd.region ?_
    refine Seq.val (Runs.build rfl rfl (run_build_writer _)) rfl rfl rfl ?_
    refine Seq.box rfl rfl rfl rfl rfl ?_
    intro g10 w1 n10
    have e10 := Nat.le_trans bel.size n10.ge
    replace bel := bel.step n10.below
    have k10 := n10.blk
    refine Seq.val (Runs.assign rfl rfl) rfl rfl rfl ?_
    refine Seq.nil ?_
    refine Post.weak (F' := [(0, _), (1, _), (4, _), (5, _), (6, _), (8, _)]) ⟨rfl, rfl, rfl, rfl, rfl, rfl, trivial⟩ ?_
    refine Post.then_ ?_
    refine Cd.seq ?_
    refine Cd.region ?_
    refine Seq.val (Runs.move rfl rfl) rfl rfl rfl ?_
    refine Seq.val (Runs.move rfl rfl) rfl rfl rfl ?_
    have wr : Bw _ w.heap.size g10 [] := ⟨e10, fun d hd => (by cases hd), _, _, .inl rfl, k10, Own.nil _ _ _ _, fun _ => rfl⟩
    have wt := Wt.grow (B := w.heap.size) bel
    refine Seq.call (Enters.value (first := []) rfl rfl rfl eg) rfl rfl rfl (hw _ g10 bel wr) ?_
    clear wr
    rintro en w9 ⟨⟨_, rfl⟩, f9, wr⟩
    refine ⟨_, rfl, ?_⟩
    replace wt := wt.wt f9
    refine Seq.nil ?_
    refine Post.weak (F' := [(0, _), (1, _), (4, _), (5, _), (6, _), (8, _)]) ⟨rfl, rfl, rfl, rfl, rfl, rfl, trivial⟩ ?_
    refine Post.then_ ?_
    refine Cd.seq ?_
    refine Cd.seq ?_
    refine Cd.region ?_
    refine Seq.val (Runs.move rfl rfl) rfl rfl rfl ?_
    refine Seq.val (Runs.nilCheck rfl rfl) rfl rfl rfl ?_
    refine Seq.val (Runs.fieldB 0 rfl rfl Try.underlying112 rfl (by kernel_rfl)) rfl rfl rfl ?_
    have hBw := wr.size
    refine Seq.call (Enters.func rfl rfl rfl (run_enter Try.func73 (by kernel_rfl) rfl)) rfl rfl rfl (blen_any w.heap.size g10 _ _ wr) ?_
    rintro en w10 ⟨rfl, hb10⟩
    refine ⟨_, rfl, ?_⟩
    replace wt := wt.step hb10
    replace wr := wr.step hb10
    refine Seq.val (Runs.gtr rfl rfl rfl) rfl rfl rfl ?_
    refine Seq.nil ?_
    refine Post.weak (F' := [(0, _), (1, _), (4, _), (5, _), (6, _), (8, _), (18, _)]) ⟨rfl, rfl, rfl, rfl, rfl, rfl, rfl, trivial⟩ ?_
    refine Post.then_ ?_
    refine Cd.condD rfl (fun hc => ?_) (fun hc => ?_)
    · skip
      refine Cd.seq ?_
      refine Cd.region ?_
      refine Seq.val (Runs.assign rfl rfl) rfl rfl rfl ?_
      refine Seq.val (Runs.assign rfl rfl) rfl rfl rfl ?_
      refine Seq.nil ?_
      refine Post.weak (F' := [(0, _), (1, _), (4, _), (5, _), (6, _), (8, _), (18, _)]) ⟨rfl, rfl, rfl, rfl, rfl, rfl, rfl, trivial⟩ ?_
      refine Post.then_ ?_
      refine Cd.ret ?_
      refine Post.then_ret ?_
      refine Post.end2 rfl rfl rfl (.inl rfl) ?_
      rw [if_neg (by decide), if_pos (by omega)]
      exact ⟨rfl, wt.to (Nat.le_refl _)⟩
    · skip
      refine Cd.skip ?_
      refine Post.then_ ?_
      refine Cd.seq ?_
      refine Cd.region ?_
      refine Seq.val (Runs.move rfl rfl) rfl rfl rfl ?_
      refine Seq.val (Runs.nilCheck rfl rfl) rfl rfl rfl ?_
      refine Seq.val (Runs.fieldB 0 rfl rfl Try.underlying112 rfl (by kernel_rfl)) rfl rfl rfl ?_
      refine Seq.call (Enters.func rfl rfl rfl (run_enter Try.func74 (by kernel_rfl) rfl)) rfl rfl rfl (bstring_any w.heap.size g10 _ _ wr (by omega)) ?_
      rintro en w11 ⟨rfl, hb11⟩
      refine ⟨_, rfl, ?_⟩
      have hfin := (wt.to (Nat.le_refl _)).trans hb11
      refine Seq.val (Runs.assign rfl rfl) rfl rfl rfl ?_
      refine Seq.val (Runs.assign rfl rfl) rfl rfl rfl ?_
      refine Seq.nil ?_
      refine Post.weak (F' := [(0, _), (1, _), (4, _), (5, _), (6, _), (8, _), (18, _)]) ⟨rfl, rfl, rfl, rfl, rfl, rfl, rfl, trivial⟩ ?_
      refine Post.then_ ?_
      refine Cd.ret ?_
      refine Post.end2 rfl rfl rfl (.inl rfl) ?_
      rw [if_neg (by decide), if_neg (by omega)]
      exact ⟨by simp, hfin⟩
theorem exprCall_of (e : Ex) (A : Option Addr) (B g g1 c : Nat) (w W : World) (hbt : builtB e = true) (h200 : e.nodes ≤ 200) (hrep : Rep w B (e) (.agg #[.int .i64 e.op, .int .i64 e.n, .string (strOf e.name), .slice A e.args.length c])) (hb : Below B w W) (k1 : Blk W g1 35 #[.int .i64 e.op, .int .i64 e.n, .string (strOf e.name), .slice A e.args.length c]) (wr : Bw W B g []) :
    Calls Try.prog 42 #[.pointer (some ⟨g, 0, none⟩), .pointer (some ⟨g1, 0, none⟩)] W (WrRet B g (exprT e) W) := by
  have hdn := e.depth_nodes
  have hex := exprW_any e.nodes e B g [] _ 1 W (Nat.le_refl _) h200 hbt (hrep.below hb) wr (by unfold I64; omega) (by simp only [List.length_nil]; omega)
  rw [inT_one, List.nil_append] at hex
  have wt := Wt.refl B W
  refine Calls.start 6 Try.func42 rfl rfl rfl ?_
  refine Cd.region ?_
  refine Seq.val (Runs.move rfl rfl) rfl rfl rfl ?_
  refine Seq.val (Runs.loadW rfl rfl Try.underlying35 rfl k1 (m := 4) (by kernel_rfl) rfl) rfl rfl rfl ?_
  refine Seq.call (Enters.func rfl rfl rfl (run_enter Try.func43 (by kernel_rfl) rfl)) rfl rfl rfl (hex) ?_
  clear wr
  rintro e w1 ⟨⟨_, rfl⟩, fw1, wr⟩
  refine ⟨_, rfl, ?_⟩
  replace wt := wt.wt fw1
  refine Seq.nil ?_
  refine Post.weak (F' := [(0, _), (1, _)]) ⟨rfl, rfl, trivial⟩ ?_
  refine Post.end0 rfl (.inr rfl) ?_
  exact ⟨⟨_, rfl⟩, wt, wr⟩
theorem eg_expr1 : ∀ args w, (callFunc 42 args).run Try.prog w = .ok (.enter 42 args) w := fun args w => run_enter Try.func42 (by kernel_rfl) rfl args w
/-- What print.Expr answers. -/
def printE (e : Ex) : List Nat × Int := prText (rightB e) (exprT e)
theorem printExpr_any (e : Ex) (v : Value) (w : World) (hd : e.depth ≤ 900) (hrep : Rep w w.heap.size e v) : Calls Try.prog 15 #[v] w fun en w' => en = .returned (.tuple #[.string (strOf (printE e).1), .int .i64 (printE e).2]) ∧ Grow w w' := by
  obtain ⟨A, c, rfl, hv⟩ := hrep.open
  have bel := Below.refl w.heap.size w
  have hpr : printE e = prText (rightB e) (if rightB e = true then exprT e else []) := by
    unfold printE prText
    cases rightB e <;> rfl
  rw [hpr]
  have hre : ∀ W, Below w.heap.size w W → Calls Try.prog 41 #[.agg #[.int .i64 e.op, .int .i64 e.n, .string (strOf e.name), .slice A e.args.length c]] W fun en w' => en = .returned (.bool (rightB e)) ∧ Grow W w' := fun W hb => rightExpr_any e w.heap.size _ W hd (hrep.below hb) hb.size
  have hTl : (if rightB e = true then exprT e else []).length ≤ 1000000 := by
    split
    · rename_i h
      unfold rightB at h
      simp at h
      have := (exprT_bd e.nodes e (Nat.le_refl _) h.2).1
      omega
    · simp
  refine Calls.start 10 Try.func15 rfl rfl rfl ?_
  refine Cd.seq ?_
  refine Cd.region ?_
  refine Seq.box rfl rfl rfl rfl rfl ?_
  intro g1 w1 n1
  have e1 := Nat.le_trans bel.size n1.ge
  replace bel := bel.step n1.below
  have k1 := n1.blk
  refine Seq.val (Runs.assign rfl rfl) rfl rfl rfl ?_
  refine Seq.val (Runs.assign rfl rfl) rfl rfl rfl ?_
  refine Seq.nil ?_
  refine Post.weak (F' := [(0, _), (1, _), (2, _), (3, _)]) ⟨rfl, rfl, rfl, rfl, trivial⟩ ?_
  refine Post.then_ ?_
  refine Cd.seq ?_
  refine Cd.region ?_
  refine Seq.val (Runs.loadW rfl rfl Try.underlying35 rfl k1 (m := 4) (by kernel_rfl) rfl) rfl rfl rfl ?_
  refine Seq.call (Enters.func rfl rfl rfl (run_enter Try.func41 (by kernel_rfl) rfl)) rfl rfl rfl (hre _ bel) ?_
  rintro en w5 ⟨rfl, hb5⟩
  refine ⟨_, rfl, ?_⟩
  replace bel := bel.step hb5
  replace k1 := k1.step hb5
  refine Seq.val (Runs.makeFunc (v := .func (.func 42) #[] #[.pointer (some ⟨g1, 0, none⟩)]) rfl (show evL _ _ = some [] from rfl) (show evL _ _ = some [.pointer (some ⟨g1, 0, none⟩)] from rfl) rfl) rfl rfl rfl ?_
  refine Seq.call (Enters.func rfl rfl rfl (run_enter Try.func40 (by kernel_rfl) rfl)) rfl rfl rfl (printed_any (rightB e) (if rightB e = true then exprT e else []) 42 [.pointer (some ⟨g1, 0, none⟩)] _ eg_expr1 hTl (fun hr W g hb hw => by rw [if_pos hr]; unfold rightB at hr; simp at hr; exact exprCall_of e A _ g g1 c _ W hr.2 hr.1.1 ((hrep.below bel).more bel.size) hb (k1.step hb) hw)) ?_
  rintro en w6 ⟨rfl, hb6⟩
  refine ⟨_, rfl, ?_⟩
  replace bel := bel.step hb6
  replace k1 := k1.step hb6
  refine Seq.val (Runs.extract rfl rfl rfl) rfl rfl rfl ?_
  refine Seq.val (Runs.extract rfl rfl rfl) rfl rfl rfl ?_
  refine Seq.val (Runs.assign rfl rfl) rfl rfl rfl ?_
  refine Seq.val (Runs.assign rfl rfl) rfl rfl rfl ?_
  refine Seq.nil ?_
  refine Post.weak (F' := [(0, _), (1, _), (2, _), (3, _)]) ⟨rfl, rfl, rfl, rfl, trivial⟩ ?_
  refine Post.then_ ?_
  refine Cd.ret ?_
  refine Post.end2 rfl rfl rfl (.inl rfl) ?_
  exact ⟨rfl, bel⟩
end Go.Proofs.Ytijaldpmpjapiaa
namespace Go.Proofs.Ytijaldpmpjapiaa
open Go.RowKit

theorem tell_any (right : Bool) (T : List Nat) (w : World) (hT : T.length ≤ 1000000) : Calls Try.prog 18 #[.string (strOf (prText right T).1), .int .i64 (prText right T).2, .bool right, .string (strOf (if right = true then T else []))] w fun e w' => e = .returned (.bool true) ∧ Grow w w' := by
  have bel := Below.refl w.heap.size w
  have hsz : (strOf T).size = T.length := strOf_size T
  unfold prText
  cases right with
  | false =>
    rw [if_pos rfl]
    refine Calls.start 35 Try.func18 rfl rfl rfl ?_
    refine Cd.seq ?_
    refine Cd.region ?_
    refine Seq.val (Runs.assign rfl rfl) rfl rfl rfl ?_
    refine Seq.nil ?_
    refine Post.weak (F' := [(0, _), (1, _), (2, _), (3, _), (8, _)]) ⟨rfl, rfl, rfl, rfl, rfl, trivial⟩ ?_
    refine Post.then_ ?_
    refine Cd.seq ?_
    refine Cd.block ?_
    refine Cd.seq ?_
    refine Cd.region ?_
    refine Seq.val (Runs.move rfl rfl) rfl rfl rfl ?_
    refine Seq.val (Runs.not rfl rfl) rfl rfl rfl ?_
    refine Seq.val (Runs.assign rfl rfl) rfl rfl rfl ?_
    refine Seq.nil ?_
    refine Post.weak (F' := [(0, _), (1, _), (2, _), (3, _), (8, _), (9, _)]) ⟨rfl, rfl, rfl, rfl, rfl, rfl, trivial⟩ ?_
    refine Post.then_ ?_
    refine Cd.condT rfl rfl ?_
    refine Cd.seq ?_
    refine Cd.region ?_
    refine Seq.val (Runs.move rfl rfl) rfl rfl rfl ?_
    refine Seq.val (Runs.eqlS rfl rfl rfl) rfl rfl rfl ?_
    refine Seq.val (Runs.move rfl rfl) rfl rfl rfl ?_
    refine SeqC.start ?_
    refine SeqC.open rfl rfl rfl rfl rfl rfl rfl (fun hcx => Runs.move rfl rfl) ?_
    refine SeqC.next rfl rfl rfl rfl rfl rfl rfl (fun hcx => Runs.eqlI rfl rfl rfl) ?_
    refine SeqC.and rfl rfl rfl rfl rfl rfl rfl ?_
    refine Seq.val (Runs.assign rfl rfl) rfl rfl rfl ?_
    refine Seq.nil ?_
    refine Post.weak (F' := [(0, _), (1, _), (2, _), (3, _), (8, _), (9, _)]) ⟨rfl, rfl, rfl, rfl, rfl, rfl, trivial⟩ ?_
    refine Post.then_ ?_
    refine Cd.ret ?_
    refine Post.block_ret ?_
    refine Post.then_ret ?_
    refine Post.end1 rfl rfl (.inl rfl) ?_
    exact ⟨ret1 (bool_eq (by simp [strOf])), bel⟩
  | true =>
    rw [if_neg (by decide), if_pos rfl]
    by_cases h : 4000 < T.length
    · rw [if_pos h]
      refine Calls.start 35 Try.func18 rfl rfl rfl ?_
      refine Cd.seq ?_
      refine Cd.region ?_
      refine Seq.val (Runs.assign rfl rfl) rfl rfl rfl ?_
      refine Seq.nil ?_
      refine Post.weak (F' := [(0, _), (1, _), (2, _), (3, _), (8, _)]) ⟨rfl, rfl, rfl, rfl, rfl, trivial⟩ ?_
      refine Post.then_ ?_
      refine Cd.seq ?_
      refine Cd.block ?_
      refine Cd.seq ?_
      refine Cd.region ?_
      refine Seq.val (Runs.move rfl rfl) rfl rfl rfl ?_
      refine Seq.val (Runs.not rfl rfl) rfl rfl rfl ?_
      refine Seq.val (Runs.assign rfl rfl) rfl rfl rfl ?_
      refine Seq.nil ?_
      refine Post.weak (F' := [(0, _), (1, _), (2, _), (3, _), (8, _), (9, _)]) ⟨rfl, rfl, rfl, rfl, rfl, rfl, trivial⟩ ?_
      refine Post.then_ ?_
      refine Cd.condF rfl rfl ?_
      refine Cd.seq ?_
      refine Cd.region ?_
      refine Seq.val (Runs.move rfl rfl) rfl rfl rfl ?_
      refine Seq.val (Runs.lenS rfl rfl Try.underlying9) rfl rfl rfl ?_
      refine Seq.val (Runs.gtr rfl rfl rfl) rfl rfl rfl ?_
      refine Seq.val (Runs.assign rfl rfl) rfl rfl rfl ?_
      refine Seq.nil ?_
      refine Post.weak (F' := [(0, _), (1, _), (2, _), (3, _), (8, _), (9, _), (18, _)]) ⟨rfl, rfl, rfl, rfl, rfl, rfl, rfl, trivial⟩ ?_
      refine Post.then_ ?_
      refine Cd.condT rfl (decide_eq_true (by omega)) ?_
      refine Cd.seq ?_
      refine Cd.region ?_
      refine Seq.val (Runs.move rfl rfl) rfl rfl rfl ?_
      refine Seq.val (Runs.eqlS rfl rfl rfl) rfl rfl rfl ?_
      refine Seq.val (Runs.move rfl rfl) rfl rfl rfl ?_
      refine SeqC.start ?_
      refine SeqC.open rfl rfl rfl rfl rfl rfl rfl (fun hcx => Runs.move rfl rfl) ?_
      refine SeqC.next rfl rfl rfl rfl rfl rfl rfl (fun hcx => Runs.eqlI rfl rfl rfl) ?_
      refine SeqC.and rfl rfl rfl rfl rfl rfl rfl ?_
      refine Seq.val (Runs.assign rfl rfl) rfl rfl rfl ?_
      refine Seq.nil ?_
      refine Post.weak (F' := [(0, _), (1, _), (2, _), (3, _), (8, _), (9, _), (18, _)]) ⟨rfl, rfl, rfl, rfl, rfl, rfl, rfl, trivial⟩ ?_
      refine Post.then_ ?_
      refine Cd.ret ?_
      refine Post.block_ret ?_
      refine Post.then_ret ?_
      refine Post.end1 rfl rfl (.inl rfl) ?_
      exact ⟨ret1 (bool_eq (by simp [strOf])), bel⟩
    · rw [if_neg h]
      refine Calls.start 35 Try.func18 rfl rfl rfl ?_
      refine Cd.seq ?_
      refine Cd.region ?_
      refine Seq.val (Runs.assign rfl rfl) rfl rfl rfl ?_
      refine Seq.nil ?_
      refine Post.weak (F' := [(0, _), (1, _), (2, _), (3, _), (8, _)]) ⟨rfl, rfl, rfl, rfl, rfl, trivial⟩ ?_
      refine Post.then_ ?_
      refine Cd.seq ?_
      refine Cd.block ?_
      refine Cd.seq ?_
      refine Cd.region ?_
      refine Seq.val (Runs.move rfl rfl) rfl rfl rfl ?_
      refine Seq.val (Runs.not rfl rfl) rfl rfl rfl ?_
      refine Seq.val (Runs.assign rfl rfl) rfl rfl rfl ?_
      refine Seq.nil ?_
      refine Post.weak (F' := [(0, _), (1, _), (2, _), (3, _), (8, _), (9, _)]) ⟨rfl, rfl, rfl, rfl, rfl, rfl, trivial⟩ ?_
      refine Post.then_ ?_
      refine Cd.condF rfl rfl ?_
      refine Cd.seq ?_
      refine Cd.region ?_
      refine Seq.val (Runs.move rfl rfl) rfl rfl rfl ?_
      refine Seq.val (Runs.lenS rfl rfl Try.underlying9) rfl rfl rfl ?_
      refine Seq.val (Runs.gtr rfl rfl rfl) rfl rfl rfl ?_
      refine Seq.val (Runs.assign rfl rfl) rfl rfl rfl ?_
      refine Seq.nil ?_
      refine Post.weak (F' := [(0, _), (1, _), (2, _), (3, _), (8, _), (9, _), (18, _)]) ⟨rfl, rfl, rfl, rfl, rfl, rfl, rfl, trivial⟩ ?_
      refine Post.then_ ?_
      refine Cd.condF rfl (decide_eq_false (by omega)) ?_
      refine Cd.skip ?_
      refine Post.block_normal ?_
      refine Post.then_ ?_
      refine Cd.seq ?_
      refine Cd.region ?_
      refine Seq.val (Runs.move rfl rfl) rfl rfl rfl ?_
      refine Seq.val (Runs.move rfl rfl) rfl rfl rfl ?_
      refine Seq.val (Runs.eqlS rfl rfl rfl) rfl rfl rfl ?_
      refine Seq.val (Runs.move rfl rfl) rfl rfl rfl ?_
      refine SeqC.start ?_
      refine SeqC.open rfl rfl rfl rfl rfl rfl rfl (fun hcx => Runs.move rfl rfl) ?_
      refine SeqC.next rfl rfl rfl rfl rfl rfl rfl (fun hcx => Runs.eqlI rfl rfl rfl) ?_
      refine SeqC.and rfl rfl rfl rfl rfl rfl rfl ?_
      refine Seq.val (Runs.assign rfl rfl) rfl rfl rfl ?_
      refine Seq.nil ?_
      refine Post.weak (F' := [(0, _), (1, _), (2, _), (3, _), (8, _), (9, _), (18, _)]) ⟨rfl, rfl, rfl, rfl, rfl, rfl, rfl, trivial⟩ ?_
      refine Post.then_ ?_
      refine Cd.ret ?_
      refine Post.end1 rfl rfl (.inl rfl) ?_
      exact ⟨ret1 (bool_eq (by simp)), bel⟩
theorem great_any (n c : Nat) (A : Option Addr) (w : World) : Calls Try.prog 12 #[.slice A n c, .slice none 0 0] w fun e w' => e = .returned (.bool (decide (60 < n))) ∧ Grow w w' := by
  have bel := Below.refl w.heap.size w
  refine Calls.start 13 Try.func12 rfl rfl rfl ?_
  refine Cd.seq ?_
  refine Cd.region ?_
  refine Seq.val (Runs.assign rfl rfl) rfl rfl rfl ?_
  refine Seq.nil ?_
  refine Post.weak (F' := [(0, _), (1, _), (4, _)]) ⟨rfl, rfl, rfl, trivial⟩ ?_
  refine Post.then_ ?_
  refine Cd.seq ?_
  refine Cd.region ?_
  refine Seq.val (Runs.move rfl rfl) rfl rfl rfl ?_
  refine Seq.val (Runs.len rfl rfl Try.underlying22) rfl rfl rfl ?_
  refine Seq.val (Runs.gtr rfl rfl rfl) rfl rfl rfl ?_
  refine Seq.val (Runs.move rfl rfl) rfl rfl rfl ?_
  refine SeqC.start ?_
  refine SeqC.open rfl rfl rfl rfl rfl rfl rfl (fun hcx => Runs.move rfl rfl) ?_
  refine SeqC.next rfl rfl rfl rfl rfl rfl rfl (fun hcx => Runs.len rfl rfl Try.underlying54) ?_
  refine SeqC.next rfl rfl rfl rfl rfl rfl rfl (fun hcx => Runs.gtr rfl rfl rfl) ?_
  refine SeqC.or rfl rfl rfl rfl rfl rfl rfl ?_
  refine Seq.val (Runs.assign rfl rfl) rfl rfl rfl ?_
  refine Seq.nil ?_
  refine Post.weak (F' := [(0, _), (1, _), (4, _)]) ⟨rfl, rfl, rfl, trivial⟩ ?_
  refine Post.then_ ?_
  refine Cd.ret ?_
  refine Post.end1 rfl rfl (.inl rfl) ?_
  exact ⟨ret1 (bool_eq (by cases h : decide (60 < n) <;> simp at h ⊢ <;> omega)), bel⟩
/-- A concrete expression of two. -/
theorem Rep.two {w : World} {g : Nat} {o : Int} {a b : Ex} {va vb : Value} {cs : Array Value} (k : Blk w g 35 cs) (hcs : cs.toList = flatC [va, vb]) (ho : I64 o) (ha : Rep w w.heap.size a va) (hb : Rep w w.heap.size b vb) :
    Rep w w.heap.size (.mk o 0 [] [a, b]) (.agg #[.int .i64 o, .int .i64 0, .string (strOf []), .slice (some ⟨g, 0, none⟩) 2 2]) := by
  refine RepE.mk (args := [a, b]) (vs := [va, vb]) rfl (by simp) ho (by unfold I64; omega) (by simp) (by simp) (fun i e v he hv => ?_) fun _ => ?_
  · match i, he, hv with
    | 0, he, hv => injection he with he; injection hv with hv; subst he hv; exact ha
    | 1, he, hv => injection he with he; injection hv with hv; subst he hv; exact hb
    | i + 2, he, hv => cases he
  · refine ⟨⟨g, 0, none⟩, rfl, k.lt, fun j u hu => ?_⟩
    rw [← hcs] at hu
    have hadd : (⟨g, 0, none⟩ : Addr).add j = ⟨g, j, none⟩ := by unfold Addr.add; split <;> simp_all
    rw [hadd, k.cell j]
    simpa using hu
theorem Rep.const (w : World) (o z : Int) (B : Nat) (ho : I64 o) (hz : I64 z) : Rep w B (.mk o z [] []) (.agg #[.int .i64 o, .int .i64 z, .string (strOf []), .slice none 0 0]) :=
  RepE.mk (args := []) (vs := []) rfl (by decide) ho hz (by simp) (by simp) (fun i e v he => by cases he) fun h => absurd rfl h
def cE (z : Int) : Ex := .mk 1 z [] []
def sE (a b : Ex) : Ex := .mk 6 0 [] [a, b]
theorem print_a : printE (sE (sE (cE 1) (cE 2)) (cE 3)) = ([49, 32, 45, 32, 50, 32, 45, 32, 51], 0) := by decide +kernel
theorem print_b : printE (sE (cE 3) (sE (cE 1) (cE 2))) = ([51, 32, 45, 32, 40, 49, 32, 45, 32, 50, 41], 0) := by decide +kernel
theorem depth_a : (sE (sE (cE 1) (cE 2)) (cE 3)).depth ≤ 900 := by decide +kernel
theorem depth_b : (sE (cE 3) (sE (cE 1) (cE 2))).depth ≤ 900 := by decide +kernel
theorem run_build_c (a b : Int) (w : World) : (Instr.build 35 #[(0, .int .i64 a), (1, .int .i64 b)]).run Try.prog w = .ok (.agg #[.int .i64 a, .int .i64 b, .string (strOf []), .slice none 0 0]) w := by
  have hu := Try.underlying35
  go_simp
  rfl
theorem run_build_s (a : Int) (g : Nat) (w : World) : (Instr.build 35 #[(0, .int .i64 a), (3, .slice (some ⟨g, 0, none⟩) 2 2)]).run Try.prog w = .ok (.agg #[.int .i64 a, .int .i64 0, .string (strOf []), .slice (some ⟨g, 0, none⟩) 2 2]) w := by
  have hu := Try.underlying35
  go_simp
  rfl
theorem Rep.step {w w' : World} {e : Ex} {v : Value} (h : Rep w w.heap.size e v) (hb : Below w.heap.size w w') : Rep w' w'.heap.size e v := (h.below hb).more hb.size
theorem awake20_any (w : World) : Calls Try.prog 13 #[] w fun e w' => e = .returned (.bool true) ∧ Grow w w' := by
  have bel := Below.refl w.heap.size w
  refine Calls.start 41 Try.func13 rfl rfl rfl ?_
  refine Cd.seq ?_
  refine Cd.region ?_
  refine Seq.val (Runs.assign rfl rfl) rfl rfl rfl ?_
  refine Seq.nil ?_
  refine Post.weak (F' := [(0, _)]) ⟨rfl, trivial⟩ ?_
  refine Post.then_ ?_
  refine Cd.seq ?_
  refine Cd.region ?_
  refine Seq.val (Runs.build rfl rfl (run_build_c 1 1 _)) rfl rfl rfl ?_
  refine Seq.val (Runs.build rfl rfl (run_build_c 1 2 _)) rfl rfl rfl ?_
  refine Seq.slice (vs := [_, _]) (s := 4) rfl rfl rfl Try.underlying25 (by kernel_rfl) (zero_api_Expr) (by omega) (by omega) ⟨rfl, rfl, trivial⟩ rfl rfl rfl ?_
  intro g8 w1 n8
  have e8 := Nat.le_trans bel.size n8.ge
  replace bel := bel.step n8.below
  have k8 := n8.blk
  refine Seq.val (Runs.assign rfl rfl) rfl rfl rfl ?_
  refine Seq.nil ?_
  refine Post.weak (F' := [(0, _), (1, _)]) ⟨rfl, rfl, trivial⟩ ?_
  refine Post.then_ ?_
  refine Cd.seq ?_
  refine Cd.region ?_
  refine Seq.val (Runs.move rfl rfl) rfl rfl rfl ?_
  have r1 : ∀ W z, I64 z → Rep W W.heap.size (cE z) (.agg #[.int .i64 1, .int .i64 z, .string (strOf []), .slice none 0 0]) := fun W z hz => Rep.const W 1 z _ (by unfold I64; omega) hz
  have i1 : I64 1 := by unfold I64; omega
  have i2 : I64 2 := by unfold I64; omega
  have i3 : I64 3 := by unfold I64; omega
  have i6 : I64 6 := by unfold I64; omega
  have hab : Rep _ _ (sE (cE 1) (cE 2)) _ := Rep.two k8 rfl i6 (r1 _ 1 i1) (r1 _ 2 i2)
  refine Seq.val (Runs.build rfl rfl (run_build_s 6 g8 _)) rfl rfl rfl ?_
  refine Seq.val (Runs.build rfl rfl (run_build_c 1 3 _)) rfl rfl rfl ?_
  refine Seq.slice (vs := [_, _]) (s := 4) rfl rfl rfl Try.underlying25 (by kernel_rfl) (zero_api_Expr) (by omega) (by omega) ⟨rfl, rfl, trivial⟩ rfl rfl rfl ?_
  intro g13 w2 n13
  have e13 := Nat.le_trans bel.size n13.ge
  replace bel := bel.step n13.below
  replace hab := hab.step n13.below
  have k13 := n13.blk
  refine Seq.val (Runs.build rfl rfl (run_build_s 6 g13 _)) rfl rfl rfl ?_
  have ha := printExpr_any _ _ _ depth_a (Rep.two k13 rfl i6 hab (r1 _ 3 i3))
  rw [print_a] at ha
  refine Seq.call (Enters.func rfl rfl rfl (run_enter Try.func15 (by kernel_rfl) rfl)) rfl rfl rfl (ha) ?_
  rintro en w5 ⟨rfl, hb5⟩
  refine ⟨_, rfl, ?_⟩
  replace bel := bel.step hb5
  replace hab := hab.step hb5
  refine Seq.val (Runs.move rfl rfl) rfl rfl rfl ?_
  refine Seq.val (Runs.extract rfl rfl rfl) rfl rfl rfl ?_
  refine Seq.val (Runs.extract rfl rfl rfl) rfl rfl rfl ?_
  refine Seq.val (Runs.assign rfl rfl) rfl rfl rfl ?_
  refine Seq.val (Runs.assign rfl rfl) rfl rfl rfl ?_
  refine Seq.nil ?_
  refine Post.weak (F' := [(0, _), (1, _), (2, _), (3, _)]) ⟨rfl, rfl, rfl, rfl, trivial⟩ ?_
  refine Post.then_ ?_
  refine Cd.seq ?_
  refine Cd.region ?_
  refine Seq.val (Runs.build rfl rfl (run_build_c 1 3 _)) rfl rfl rfl ?_
  refine Seq.val (Runs.move rfl rfl) rfl rfl rfl ?_
  refine Seq.val (Runs.build rfl rfl (run_build_s 6 g8 _)) rfl rfl rfl ?_
  refine Seq.slice (vs := [_, _]) (s := 4) rfl rfl rfl Try.underlying25 (by kernel_rfl) (zero_api_Expr) (by omega) (by omega) ⟨rfl, rfl, trivial⟩ rfl rfl rfl ?_
  intro g22 w3 n22
  have e22 := Nat.le_trans bel.size n22.ge
  replace bel := bel.step n22.below
  replace hab := hab.step n22.below
  have k22 := n22.blk
  refine Seq.val (Runs.build rfl rfl (run_build_s 6 g22 _)) rfl rfl rfl ?_
  have hb := printExpr_any _ _ _ depth_b (Rep.two k22 rfl i6 (r1 _ 3 i3) hab)
  rw [print_b] at hb
  refine Seq.call (Enters.func rfl rfl rfl (run_enter Try.func15 (by kernel_rfl) rfl)) rfl rfl rfl (hb) ?_
  rintro en w6 ⟨rfl, hb6⟩
  refine ⟨_, rfl, ?_⟩
  replace bel := bel.step hb6
  replace hab := hab.step hb6
  refine Seq.val (Runs.move rfl rfl) rfl rfl rfl ?_
  refine Seq.val (Runs.extract rfl rfl rfl) rfl rfl rfl ?_
  refine Seq.val (Runs.extract rfl rfl rfl) rfl rfl rfl ?_
  refine Seq.val (Runs.assign rfl rfl) rfl rfl rfl ?_
  refine Seq.val (Runs.assign rfl rfl) rfl rfl rfl ?_
  refine Seq.nil ?_
  refine Post.weak (F' := [(0, _), (1, _), (2, _), (3, _), (4, _), (5, _)]) ⟨rfl, rfl, rfl, rfl, rfl, rfl, trivial⟩ ?_
  refine Post.then_ ?_
  refine Cd.seq ?_
  refine Cd.region ?_
  refine Seq.val (Runs.move rfl rfl) rfl rfl rfl ?_
  refine Seq.val (Runs.eqlI rfl rfl rfl) rfl rfl rfl ?_
  refine Seq.val (Runs.move rfl rfl) rfl rfl rfl ?_
  refine SeqC.start ?_
  refine SeqC.open rfl rfl rfl rfl rfl rfl rfl (fun hcx => Runs.move rfl rfl) ?_
  refine SeqC.next rfl rfl rfl rfl rfl rfl rfl (fun hcx => Runs.eqlS rfl rfl rfl) ?_
  refine SeqC.and rfl rfl rfl rfl rfl rfl rfl ?_
  refine Seq.val (Runs.move rfl rfl) rfl rfl rfl ?_
  refine SeqC.start ?_
  refine SeqC.open rfl rfl rfl rfl rfl rfl rfl (fun hcx => Runs.move rfl rfl) ?_
  refine SeqC.next rfl rfl rfl rfl rfl rfl rfl (fun hcx => Runs.eqlI rfl rfl rfl) ?_
  refine SeqC.and rfl rfl rfl rfl rfl rfl rfl ?_
  refine Seq.val (Runs.move rfl rfl) rfl rfl rfl ?_
  refine SeqC.start ?_
  refine SeqC.open rfl rfl rfl rfl rfl rfl rfl (fun hcx => Runs.move rfl rfl) ?_
  refine SeqC.next rfl rfl rfl rfl rfl rfl rfl (fun hcx => Runs.eqlS rfl rfl rfl) ?_
  refine SeqC.and rfl rfl rfl rfl rfl rfl rfl ?_
  refine Seq.val (Runs.assign rfl rfl) rfl rfl rfl ?_
  refine Seq.nil ?_
  refine Post.weak (F' := [(0, _), (1, _), (2, _), (3, _), (4, _), (5, _)]) ⟨rfl, rfl, rfl, rfl, rfl, rfl, trivial⟩ ?_
  refine Post.then_ ?_
  refine Cd.ret ?_
  refine Post.end1 rfl rfl (.inl rfl) ?_
  have e1 : strOf [49, 32, 45, 32, 50, 32, 45, 32, 51] = { data := #[49, 32, 45, 32, 50, 32, 45, 32, 51] } := rfl
  have e2 : strOf [51, 32, 45, 32, 40, 49, 32, 45, 32, 50, 41] = { data := #[51, 32, 45, 32, 40, 49, 32, 45, 32, 50, 41] } := rfl
  exact ⟨ret1 (bool_eq (by simp [e1, e2])), bel⟩
end Go.Proofs.Ytijaldpmpjapiaa
namespace Go.Proofs.Ytijaldpmpjapiaa
open Go.ChangeShapes Go.WideShapes Go.Deep Go.RowKit

set_option maxRecDepth 100000 in
theorem open_int {W : World} {base t : Nat} {v : Value} {k : IntKind} (hu : Try.prog.underlying t = some (.int k)) (hv : Value.okWide Try.prog W .any base t v) : ∃ n, v = .int k n ∧ k.has n := by
  obtain ⟨n, rfl⟩ := okWide_int hu hv
  simp only [Value.okWide, hu, Cell.okWide] at hv
  exact ⟨n, rfl, by simpa [Cell.ok, hu] using hv⟩
set_option maxRecDepth 100000 in
theorem open_i64 {W : World} {base t : Nat} {v : Value} (hu : Try.prog.underlying t = some (.int .i64)) (hv : Value.okWide Try.prog W .any base t v) : ∃ n, v = .int .i64 n ∧ I64 n := by
  obtain ⟨n, rfl, h⟩ := open_int hu hv
  exact ⟨n, rfl, h.1, h.2⟩
set_option maxRecDepth 100000 in
theorem open_u8 {W : World} {base t : Nat} {v : Value} (hu : Try.prog.underlying t = some (.int .u8)) (hv : Value.okWide Try.prog W .any base t v) : ∃ n : Nat, v = .int .u8 (n : Int) ∧ n < 256 := by
  obtain ⟨n, rfl, h0, h1⟩ := open_int hu hv
  have h2 : (0 : Int) ≤ n := h0
  have h3 : n ≤ 255 := h1
  exact ⟨n.toNat, by rw [Int.toNat_of_nonneg h2], by omega⟩
set_option maxRecDepth 100000 in
theorem open_str {W : World} {base t : Nat} {v : Value} (hu : Try.prog.underlying t = some .string) (hv : Value.okWide Try.prog W .any base t v) : ∃ l : List Nat, v = .string (strOf l) ∧ (∀ x ∈ l, x < 256) ∧ l.length ≤ 9223372036854775807 := by
  obtain ⟨s, rfl⟩ := okWide_string hu hv
  simp only [Value.okWide, hu, Cell.okWide] at hv
  have hs : (s.size : Int) ≤ 9223372036854775807 := by simpa [Cell.ok, hu] using hv
  refine ⟨bytesOf s, by rw [strOf_bytesOf], bytesOf_lt s, ?_⟩
  have : (bytesOf s).length = s.size := by rw [← strOf_size, strOf_bytesOf]
  omega
end Go.Proofs.Ytijaldpmpjapiaa
