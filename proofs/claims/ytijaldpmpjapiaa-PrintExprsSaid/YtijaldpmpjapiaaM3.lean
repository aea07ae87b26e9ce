/-
  Texts that were joined: TreD, LexC, LexD, LexE, LexF, LexG. Conditions: what each theorem names.
-/
import Derived.Test.YtijaldpmpjapiaaM2
set_option linter.unusedSectionVars false
namespace Go.Proofs.Ytijaldpmpjapiaa
open Go.RowKit

/-- The first place at which a predicate holds, or -1. -/
def idxP {α : Type} (p : α → Bool) (l : List α) : Int := match l.findIdx? p with | some i => (i : Int) | none => -1
theorem idxP_some {α : Type} {p : α → Bool} {l : List α} {i : Nat} {x : α} (h : l[i]? = some x) (hp : p x = true) (hb : ∀ y ∈ l.take i, p y = false) : idxP p l = (i : Int) := by
  unfold idxP
  have : l.findIdx? p = some i := by
    rw [List.findIdx?_eq_some_iff_getElem]
    obtain ⟨hi, he⟩ := List.getElem?_eq_some_iff.1 h
    refine ⟨hi, by rw [he]; exact hp, fun j hj => ?_⟩
    have := hb (l[j]) (by rw [List.mem_take_iff_getElem]; exact ⟨j, by omega, rfl⟩)
    rw [this]; simp
  rw [this]
theorem idxP_none {α : Type} {p : α → Bool} {l : List α} (hb : ∀ y ∈ l, p y = false) : idxP p l = -1 := by
  unfold idxP
  have : l.findIdx? p = none := by rw [List.findIdx?_eq_none_iff]; exact hb
  rw [this]
theorem idxP_any {α : Type} (p : α → Bool) (l : List α) : decide (0 ≤ idxP p l) = l.any p := by
  unfold idxP
  cases h : l.findIdx? p with
  | none =>
    rw [List.findIdx?_eq_none_iff] at h
    have : l.any p = false := by rw [List.any_eq_false]; exact fun x hx => by rw [h x hx]; simp
    rw [this]; rfl
  | some i =>
    obtain ⟨hi, he, -⟩ := List.findIdx?_eq_some_iff_getElem.1 h
    have : l.any p = true := by rw [List.any_eq_true]; exact ⟨_, List.getElem_mem hi, he⟩
    rw [this]; simp
theorem indexE_any (g : Nat) (cp : List Value) (p : Ex → Bool) (B : Nat) (A : Option Addr) (c : Nat) (e : Ex) (w : World) (hv : RepV w B e A c) (hB : B ≤ w.heap.size)
    (eg : ∀ args w, (callFunc g args).run Try.prog w = .ok (.enter g args) w) (hp : ∀ x ∈ e.args, ∀ v W, Below w.heap.size w W → Rep W B x v → Calls Try.prog g ([] ++ [v] ++ cp).toArray W fun en w' => en = .returned (.bool (p x)) ∧ Grow W w') :
    Calls Try.prog 153 #[.slice A e.args.length c, .func (.func g) #[] cp.toArray] w fun en w' => en = .returned (.int .i64 (idxP p e.args)) ∧ Grow w w' := by
  have bel := Below.refl w.heap.size w
  have h60 := hv.h60
  obtain ⟨n, hn⟩ : ∃ n, n = e.args.length := ⟨_, rfl⟩
  rw [← hn] at h60 ⊢
  refine Calls.start 19 Try.func153 rfl rfl rfl ?_
  refine Cd.seq ?_
  refine Cd.region ?_
  refine Seq.val (Runs.assign rfl rfl) rfl rfl rfl ?_
  refine Seq.nil ?_
  refine Post.weak (F' := [(0, _), (1, _), (4, _)]) ⟨rfl, rfl, rfl, trivial⟩ ?_
  refine Post.then_ ?_
  refine Cd.seq ?_
  refine Cd.seq ?_
  refine Cd.region ?_
  refine Seq.val (Runs.move rfl rfl) rfl rfl rfl ?_
  refine Seq.val (Runs.len rfl rfl Try.underlying25) rfl rfl rfl ?_
  refine Seq.val (Runs.move rfl rfl) rfl rfl rfl ?_
  refine Seq.nil ?_
  refine Post.weak (F' := [(0, _), (1, _), (4, _), (7, _), (8, _)]) ⟨rfl, rfl, rfl, rfl, rfl, trivial⟩ ?_
  refine Post.then_ ?_
  refine Cd.block ?_
  refine Cd.loop (σ := Nat) (fun k => [(0, .slice A n c), (1, .func (.func g) #[] cp.toArray), (7, .int .i64 (n : Int)), (8, .int .i64 (k : Int))])
    (fun k wr => k ≤ n ∧ (∀ y ∈ e.args.take k, p y = false) ∧ Below w.heap.size w wr) (fun k => n - k) 0 ⟨Nat.zero_le _, by simp, bel⟩ ⟨rfl, rfl, rfl, rfl, trivial⟩ ?_
  clear bel
  rintro k wr ⟨hk, hno, bel⟩
  refine Cd.seq ?_
  refine Cd.region ?_
  refine Seq.val (Runs.lss rfl rfl rfl) rfl rfl rfl ?_
  refine Seq.nil ?_
  refine Post.weak (F' := [(0, _), (1, _), (7, _), (8, _), (9, _)]) ⟨rfl, rfl, rfl, rfl, rfl, trivial⟩ ?_
  refine Post.then_ ?_
  refine Cd.seq ?_
  refine Cd.condD rfl (fun hc => ?_) (fun hc => ?_)
  · obtain ⟨x, hx⟩ : ∃ x, e.args[k]? = some x := ⟨_, List.getElem?_eq_getElem (show k < e.args.length by omega)⟩
    obtain ⟨ad, A', c', rfl, hbl, hrx, hc⟩ := hv.arg k x hx
    have hc := fun j u hj => ((bel.mono hB).cell (p := (ad.add (k * 4)).add j) (by rw [block_of_add, block_of_add]; exact hbl)).trans (hc j u hj)
    have htk : e.args.take (k + 1) = e.args.take k ++ [x] := by rw [List.take_add_one, hx]; rfl
    refine Cd.skip ?_
    refine Post.then_ ?_
    refine Cd.seq ?_
    refine Cd.block ?_
    refine Cd.seq ?_
    refine Cd.region ?_
    refine Seq.val (Runs.move rfl rfl) rfl rfl rfl ?_
    refine Seq.val (Runs.assign rfl rfl) rfl rfl rfl ?_
    refine Seq.nil ?_
    refine Post.weak (F' := [(0, _), (1, _), (5, _), (7, _), (8, _), (9, _)]) ⟨rfl, rfl, rfl, rfl, rfl, rfl, trivial⟩ ?_
    refine Post.then_ ?_
    refine Cd.seq ?_
    refine Cd.region ?_
    refine Seq.val (Runs.move rfl rfl) rfl rfl rfl ?_
    refine Seq.val (Runs.move rfl rfl) rfl rfl rfl ?_
    refine Seq.val (Runs.move rfl rfl) rfl rfl rfl ?_
    refine Seq.val (Runs.indexN rfl rfl rfl Try.underlying25 (s := 4) (by kernel_rfl) (j := k) rfl (by omega)) rfl rfl rfl ?_
    refine Seq.val (Runs.loadF (ps := [.int .i64 x.op, .int .i64 x.n, .string (strOf x.name), .slice A' x.args.length c']) rfl rfl Try.underlying35 rfl (m := 4) (by kernel_rfl) rfl hc) rfl rfl rfl ?_
    refine Seq.call (Enters.value (first := []) (cap := cp) rfl rfl rfl eg) rfl rfl rfl (hp x (List.mem_of_getElem? hx) _ _ bel (hrx.below (bel.mono hB))) ?_
    rintro en w5 ⟨rfl, hb5⟩
    refine ⟨_, rfl, ?_⟩
    replace bel := bel.step hb5
    refine Seq.nil ?_
    refine Post.weak (F' := [(0, _), (1, _), (5, _), (7, _), (8, _), (9, _), (16, _)]) ⟨rfl, rfl, rfl, rfl, rfl, rfl, rfl, trivial⟩ ?_
    refine Post.then_ ?_
    refine Cd.cond rfl (fun h => ?_) (fun h => ?_)
    · skip
      refine Cd.seq ?_
      refine Cd.region ?_
      refine Seq.val (Runs.move rfl rfl) rfl rfl rfl ?_
      refine Seq.val (Runs.assign rfl rfl) rfl rfl rfl ?_
      refine Seq.nil ?_
      refine Post.weak (F' := [(0, _), (1, _), (4, _), (5, _), (7, _), (8, _), (9, _), (16, _)]) ⟨rfl, rfl, rfl, rfl, rfl, rfl, rfl, rfl, trivial⟩ ?_
      refine Post.then_ ?_
      refine Cd.ret ?_
      refine Post.block_ret ?_
      refine Post.then_ret ?_
      refine Post.round_ret ?_
      refine Post.block_ret ?_
      refine Post.then_ret ?_
      refine Post.end1 rfl rfl (.inl rfl) ?_
      exact ⟨ret1 (int_eq (idxP_some hx h hno).symm), bel⟩
    · skip
      refine Cd.skip ?_
      refine Post.block_normal ?_
      refine Post.then_ ?_
      refine Cd.region ?_
      refine Seq.val (Runs.addI rfl rfl rfl (by omega) (by omega)) rfl rfl rfl ?_
      refine Seq.val (Runs.move rfl rfl) rfl rfl rfl ?_
      refine Seq.nil ?_
      refine Post.weak (F' := [(0, _), (1, _), (5, _), (7, _), (8, _), (9, _), (16, _)]) ⟨rfl, rfl, rfl, rfl, rfl, rfl, rfl, trivial⟩ ?_
      refine Post.round (k + 1) ⟨rfl, rfl, rfl, rfl, trivial⟩ ⟨by omega, fun y hy => ?_, bel⟩ (by omega)
      rw [htk] at hy
      rcases List.mem_append.1 hy with hy | hy
      · exact hno y hy
      · simp at hy; subst hy; exact h
  · obtain rfl : k = n := by omega
    rw [List.take_of_length_le (by omega)] at hno
    refine Cd.exit ?_
    refine Post.then_exit ?_
    refine Post.round_exit ?_
    refine Post.block_exit ?_
    refine Post.then_ ?_
    refine Cd.seq ?_
    refine Cd.region ?_
    refine Seq.val (Runs.assign rfl rfl) rfl rfl rfl ?_
    refine Seq.nil ?_
    refine Post.weak (F' := [(0, _), (1, _), (4, _), (7, _), (8, _), (9, _)]) ⟨rfl, rfl, rfl, rfl, rfl, rfl, trivial⟩ ?_
    refine Post.then_ ?_
    refine Cd.ret ?_
    refine Post.end1 rfl rfl (.inl rfl) ?_
    exact ⟨ret1 (int_eq (idxP_none hno).symm), bel⟩
theorem containsE_any (g : Nat) (cp : List Value) (p : Ex → Bool) (B : Nat) (A : Option Addr) (c : Nat) (e : Ex) (w : World) (hv : RepV w B e A c) (hB : B ≤ w.heap.size)
    (eg : ∀ args w, (callFunc g args).run Try.prog w = .ok (.enter g args) w) (hp : ∀ x ∈ e.args, ∀ v W, Below w.heap.size w W → Rep W B x v → Calls Try.prog g ([] ++ [v] ++ cp).toArray W fun en w' => en = .returned (.bool (p x)) ∧ Grow W w') :
    Calls Try.prog 119 #[.slice A e.args.length c, .func (.func g) #[] cp.toArray] w fun en w' => en = .returned (.bool (e.args.any p)) ∧ Grow w w' := by
  have bel := Below.refl w.heap.size w
  have hc := fun W (hb : Below w.heap.size w W) => indexE_any g cp p B A c e W (hv.below (hb.mono hB)) (Nat.le_trans hB hb.size) eg (fun x hx v W2 hb2 hr => hp x hx v W2 (hb.trans (hb2.mono hb.size)) hr)
  have hany := idxP_any p e.args
  obtain ⟨n, hn⟩ : ∃ n, n = e.args.length := ⟨_, rfl⟩
  rw [← hn] at hc ⊢
  refine Calls.start 9 Try.func119 rfl rfl rfl ?_
  refine Cd.seq ?_
  refine Cd.region ?_
  refine Seq.val (Runs.assign rfl rfl) rfl rfl rfl ?_
  refine Seq.nil ?_
  refine Post.weak (F' := [(0, _), (1, _), (4, _)]) ⟨rfl, rfl, rfl, trivial⟩ ?_
  refine Post.then_ ?_
  refine Cd.seq ?_
  refine Cd.region ?_
  refine Seq.val (Runs.move rfl rfl) rfl rfl rfl ?_
  refine Seq.val (Runs.move rfl rfl) rfl rfl rfl ?_
  refine Seq.call (Enters.func rfl rfl rfl (run_enter Try.func153 (by kernel_rfl) rfl)) rfl rfl rfl (hc _ bel) ?_
  rintro en w5 ⟨rfl, hb5⟩
  refine ⟨_, rfl, ?_⟩
  replace bel := bel.step hb5
  refine Seq.val (Runs.geq rfl rfl rfl) rfl rfl rfl ?_
  refine Seq.val (Runs.assign rfl rfl) rfl rfl rfl ?_
  refine Seq.nil ?_
  refine Post.weak (F' := [(0, _), (1, _), (4, _)]) ⟨rfl, rfl, rfl, trivial⟩ ?_
  refine Post.then_ ?_
  refine Cd.ret ?_
  refine Post.end1 rfl rfl (.inl rfl) ?_
  exact ⟨ret1 (bool_eq hany), bel⟩
/-- Is an expression's head as it must be? -/
def headB (op n : Int) (nm : List Nat) (k : Nat) : Bool := decide (arityZ op = (k : Int)) && !(decide (n ≠ 0) && decide (op ≠ 1) && decide (op ≠ 2)) && !(decide (nm ≠ []) && decide (op ≠ 3)) && !decide (n < 0) && !(decide (op = 2) && decide (2932896 < n)) && !(decide (op = 3) && !freeB nm)
mutual
def builtB : Ex → Bool
  | .mk op n nm l => headB op n nm l.length && builtL l
def builtL : List Ex → Bool
  | [] => true
  | e :: r => builtB e && builtL r
end
theorem builtL_all : ∀ l, builtL l = l.all builtB
  | [] => by rw [builtL]; rfl
  | e :: r => by rw [builtL, builtL_all r]; rfl
theorem builtB_eq (e : Ex) : builtB e = (headB e.op e.n e.name e.args.length && e.args.all builtB) := by
  cases e; rw [builtB, builtL_all]; rfl

theorem eg_built1 : ∀ args w, (callFunc 127 args).run Try.prog w = .ok (.enter 127 args) w := fun args w => run_enter Try.func127 (by kernel_rfl) rfl args w
theorem headB_false {op n : Int} {nm : List Nat} {k : Nat} (h : ¬ (arityZ op = (k : Int) ∧ (n = 0 ∨ op = 1 ∨ op = 2) ∧ (nm = [] ∨ op = 3) ∧ 0 ≤ n ∧ (op = 2 → n ≤ 2932896) ∧ (op = 3 → freeB nm = true))) : headB op n nm k = false := by
  cases hh : headB op n nm k with
  | false => rfl
  | true =>
    exfalso
    apply h
    unfold headB at hh
    simp at hh
    obtain ⟨⟨⟨⟨⟨h1, h2⟩, h3⟩, h4⟩, h5⟩, h6⟩ := hh
    exact ⟨h1, by omega, h3, h4, by omega, fun h => by
      rcases h6 with a | a
      · exact absurd h a
      · exact a⟩
theorem headB_true {op n : Int} {nm : List Nat} {k : Nat} (h1 : arityZ op = (k : Int)) (h2 : n = 0 ∨ op = 1 ∨ op = 2) (h3 : nm = [] ∨ op = 3) (h4 : 0 ≤ n) (h5 : op = 2 → n ≤ 2932896) (h6 : op = 3 → freeB nm = true) : headB op n nm k = true := by
  unfold headB
  simp
  refine ⟨⟨⟨⟨⟨h1, by omega⟩, h3⟩, h4⟩, by omega⟩, ?_⟩
  by_cases a : op = 3
  · exact .inr (h6 a)
  · exact .inl a
theorem builtExpr_any (N : Nat) : ∀ (e : Ex) (B : Nat) (v : Value) (w : World), e.nodes ≤ N → Rep w B e v → B ≤ w.heap.size → Calls Try.prog 76 #[v] w fun en w' => en = .returned (.bool (builtB e)) ∧ Grow w w' := by
  induction N with
  | zero => intro e B v w hN; have := e.nodes_pos; omega
  | succ N ih =>
  intro e B v w hN hrep hB
  obtain ⟨A, c, rfl, hv⟩ := hrep.open
  have bel := Below.refl w.heap.size w
  have HB1 := hv.name
  have HB2 : ∀ d ∈ ([] : List Nat), d < 256 := by simp
  have hnl := hv.nlen
  have h60 := hv.h60
  have hn1 := hv.n.1
  have hn2 := hv.n.2
  have hbt := builtB_eq e
  have hcl := fun W (hb : Below w.heap.size w W) => containsE_any 127 [] (fun x => !builtB x) B A c e W (hv.below (hb.mono hB)) (Nat.le_trans hB hb.size) eg_built1 (fun x hx v W2 hb2 hr => by
    have hxn := Ex.arg_nodes hx
    have hrec := ih x B v
    have hs2 := Nat.le_trans hB (Nat.le_trans hb.size hb2.size)
    obtain ⟨Ax, cx, rfl, -⟩ := hr.open
    have bel := Below.refl W2.heap.size W2
    have hrec := fun W3 (hb3 : Below W2.heap.size W2 W3) => hrec W3 (by omega) (hr.below (hb3.mono hs2)) (Nat.le_trans hs2 hb3.size)
    generalize builtB x = q at *
    refine Calls.start 6 Try.func127 rfl rfl rfl ?_
    refine Cd.seq ?_
    refine Cd.region ?_
    refine Seq.box rfl rfl rfl rfl rfl ?_
    intro g1 w1 n1
    have e1 := Nat.le_trans bel.size n1.ge
    replace bel := bel.step n1.below
    have k1 := n1.blk
    refine Seq.val (Runs.assign rfl rfl) rfl rfl rfl ?_
    refine Seq.nil ?_
    refine Post.weak (F' := [(0, _), (1, _), (2, _)]) ⟨rfl, rfl, rfl, trivial⟩ ?_
    refine Post.then_ ?_
    refine Cd.seq ?_
    refine Cd.region ?_
    refine Seq.val (Runs.loadW rfl rfl Try.underlying35 rfl k1 (m := 4) (by kernel_rfl) rfl) rfl rfl rfl ?_
    refine Seq.call (Enters.func rfl rfl rfl (run_enter Try.func76 (by kernel_rfl) rfl)) rfl rfl rfl (hrec _ bel) ?_
    rintro en w5 ⟨rfl, hb5⟩
    refine ⟨_, rfl, ?_⟩
    replace bel := bel.step hb5
    replace k1 := k1.step hb5
    refine Seq.val (Runs.not rfl rfl) rfl rfl rfl ?_
    refine Seq.val (Runs.assign rfl rfl) rfl rfl rfl ?_
    refine Seq.nil ?_
    refine Post.weak (F' := [(0, _), (1, _), (2, _)]) ⟨rfl, rfl, rfl, trivial⟩ ?_
    refine Post.then_ ?_
    refine Cd.ret ?_
    refine Post.end1 rfl rfl (.inl rfl) ?_
    exact ⟨rfl, bel⟩)
  obtain ⟨op, hop⟩ : ∃ op, op = e.op := ⟨_, rfl⟩
  obtain ⟨n, hn⟩ : ∃ n, n = e.n := ⟨_, rfl⟩
  obtain ⟨nm, hnm⟩ : ∃ nm, nm = e.name := ⟨_, rfl⟩
  obtain ⟨k, hk⟩ : ∃ k, k = e.args.length := ⟨_, rfl⟩
  rw [← hop, ← hn, ← hnm, ← hk] at hbt
  rw [← hnm] at HB1 hnl
  rw [← hn] at hn1 hn2
  rw [← hk] at h60 hcl
  rw [← hop, ← hn, ← hnm, ← hk]
  have hbf : ∀ _ : ¬ (arityZ op = (k : Int) ∧ (n = 0 ∨ op = 1 ∨ op = 2) ∧ (nm = [] ∨ op = 3) ∧ 0 ≤ n ∧ (op = 2 → n ≤ 2932896) ∧ (op = 3 → freeB nm = true)), builtB e = false := fun h => by rw [hbt, headB_false h]; rfl
  generalize builtB e = b at *
  refine Calls.start 60 Try.func76 rfl rfl rfl ?_
  refine Cd.seq ?_
  refine Cd.region ?_
  refine Seq.box rfl rfl rfl rfl rfl ?_
  intro g1 w1 n1
  have e1 := Nat.le_trans bel.size n1.ge
  replace bel := bel.step n1.below
  have k1 := n1.blk
  refine Seq.val (Runs.assign rfl rfl) rfl rfl rfl ?_
  refine Seq.nil ?_
  refine Post.weak (F' := [(0, _), (1, _), (2, _)]) ⟨rfl, rfl, rfl, trivial⟩ ?_
  refine Post.then_ ?_
  refine Cd.seqJ (σ := Unit) (fun _ => [(1, .pointer (some ⟨g1, 0, none⟩))]) (fun _ wr => (arityZ op = (k : Int) ∧ (n = 0 ∨ op = 1 ∨ op = 2) ∧ (nm = [] ∨ op = 3)) ∧ Below w.heap.size w wr ∧ Blk wr g1 35 #[.int .i64 op, .int .i64 n, .string (strOf nm), .slice A k c]) ?_ ?_
  · skip
    by_cases h1 : arityZ op = (k : Int)
    · by_cases h2 : n = 0
      · skip
        by_cases h5 : nm = []
        · skip
          refine Cd.seq ?_
          refine Cd.draw 32 (by kernel_rfl) [] (.inl rfl) rfl Grow Grow.refl (fun _ _ _ => Grow.trans) ?_
          intro w2 hw2 zw2
          replace bel := bel.step hw2
          replace k1 := k1.step hw2
          have zbel := bel.size
          have zlt := k1.lt
          refine Dr.val Grow.refl rfl (fun w hG => Runs.fieldB 0 rfl rfl Try.underlying35 rfl (by kernel_rfl)) rfl ?_
          refine Dr.val Grow.refl rfl (fun w hG => Runs.loadB rfl rfl Try.underlying3 rfl (k1.step hG) rfl) rfl ?_
          refine Dr.callV rfl (fun w => Enters.func rfl rfl rfl (run_enter Try.func126 (by kernel_rfl) rfl)) rfl (fun w hG => arity_any op w) ?_
          refine Dr.val Grow.refl rfl (fun w hG => Runs.fieldB 3 rfl rfl Try.underlying35 rfl (by kernel_rfl)) rfl ?_
          refine Dr.val Grow.refl rfl (fun w hG => Runs.loadB rfl rfl Try.underlying25 rfl (k1.step hG) rfl) rfl ?_
          refine Dr.val Grow.refl rfl (fun w hG => Runs.len rfl rfl Try.underlying25) rfl ?_
          refine Dr.val Grow.refl rfl (fun w hG => (Runs.neqI rfl rfl rfl).isF (by omega)) rfl ?_
          refine Dr.val Grow.refl rfl (fun w hG => Runs.move rfl rfl) rfl ?_
          refine Dr.valG Grow.refl rfl (fun w hG => Runs.fieldB 1 rfl rfl Try.underlying35 rfl (by kernel_rfl)) rfl rfl rfl ?_
          refine Dr.valG Grow.refl rfl (fun w hG => Runs.loadB rfl rfl Try.underlying2 rfl (k1.step hG) rfl) rfl rfl rfl ?_
          refine Dr.valG Grow.refl rfl (fun w hG => (Runs.neqI rfl rfl rfl).isF (by omega)) rfl rfl rfl ?_
          refine Dr.valG Grow.refl rfl (fun w hG => Runs.move rfl rfl) rfl rfl rfl ?_
          refine Dr.skip rfl rfl rfl rfl rfl ?_
          refine Dr.skip rfl rfl rfl rfl rfl ?_
          refine Dr.skip rfl rfl rfl rfl rfl ?_
          refine Dr.valG Grow.refl rfl (fun w hG => Runs.pickF rfl rfl rfl) rfl rfl rfl ?_
          refine Dr.valG Grow.refl rfl (fun w hG => Runs.move rfl rfl) rfl rfl rfl ?_
          refine Dr.skip rfl rfl rfl rfl rfl ?_
          refine Dr.skip rfl rfl rfl rfl rfl ?_
          refine Dr.skip rfl rfl rfl rfl rfl ?_
          refine Dr.valG Grow.refl rfl (fun w hG => Runs.pickF rfl rfl rfl) rfl rfl rfl ?_
          refine Dr.val Grow.refl rfl (fun w hG => Runs.pickF rfl rfl rfl) rfl ?_
          refine Dr.val Grow.refl rfl (fun w hG => Runs.move rfl rfl) rfl ?_
          refine Dr.valG Grow.refl rfl (fun w hG => Runs.fieldB 2 rfl rfl Try.underlying35 rfl (by kernel_rfl)) rfl rfl rfl ?_
          refine Dr.valG Grow.refl rfl (fun w hG => Runs.loadB rfl rfl Try.underlying9 rfl (k1.step hG) rfl) rfl rfl rfl ?_
          refine Dr.valG Grow.refl rfl (fun w hG => (Runs.neqL (b := []) rfl rfl rfl HB1 HB2).isF (by simp [h5])) rfl rfl rfl ?_
          refine Dr.valG Grow.refl rfl (fun w hG => Runs.move rfl rfl) rfl rfl rfl ?_
          refine Dr.skip rfl rfl rfl rfl rfl ?_
          refine Dr.skip rfl rfl rfl rfl rfl ?_
          refine Dr.skip rfl rfl rfl rfl rfl ?_
          refine Dr.valG Grow.refl rfl (fun w hG => Runs.pickF rfl rfl rfl) rfl rfl rfl ?_
          refine Dr.val Grow.refl rfl (fun w hG => Runs.pickF rfl rfl rfl) rfl ?_
          refine Dr.nil ?_
          refine FinX.done (F' := [(0, _), (1, _), (2, _), (34, _)]) rfl ⟨rfl, rfl, rfl, rfl, trivial⟩ ?_
          intro w3 hw3 fw3
          replace bel := bel.step hw3
          replace k1 := k1.step hw3
          refine Seq.nil ?_
          refine Post.weak (F' := [(0, _), (1, _), (2, _), (34, _)]) ⟨rfl, rfl, rfl, rfl, trivial⟩ ?_
          refine Post.then_ ?_
          refine Cd.condF rfl rfl ?_
          refine Cd.skip ?_
          exact Post.join () ⟨rfl, trivial⟩ ⟨⟨h1, .inl h2, .inl h5⟩, bel, k1⟩
        · by_cases h6 : op = 3
          · skip
            refine Cd.seq ?_
            refine Cd.draw 32 (by kernel_rfl) [] (.inl rfl) rfl Grow Grow.refl (fun _ _ _ => Grow.trans) ?_
            intro w2 hw2 zw2
            replace bel := bel.step hw2
            replace k1 := k1.step hw2
            have zbel := bel.size
            have zlt := k1.lt
            refine Dr.val Grow.refl rfl (fun w hG => Runs.fieldB 0 rfl rfl Try.underlying35 rfl (by kernel_rfl)) rfl ?_
            refine Dr.val Grow.refl rfl (fun w hG => Runs.loadB rfl rfl Try.underlying3 rfl (k1.step hG) rfl) rfl ?_
            refine Dr.callV rfl (fun w => Enters.func rfl rfl rfl (run_enter Try.func126 (by kernel_rfl) rfl)) rfl (fun w hG => arity_any op w) ?_
            refine Dr.val Grow.refl rfl (fun w hG => Runs.fieldB 3 rfl rfl Try.underlying35 rfl (by kernel_rfl)) rfl ?_
            refine Dr.val Grow.refl rfl (fun w hG => Runs.loadB rfl rfl Try.underlying25 rfl (k1.step hG) rfl) rfl ?_
            refine Dr.val Grow.refl rfl (fun w hG => Runs.len rfl rfl Try.underlying25) rfl ?_
            refine Dr.val Grow.refl rfl (fun w hG => (Runs.neqI rfl rfl rfl).isF (by omega)) rfl ?_
            refine Dr.val Grow.refl rfl (fun w hG => Runs.move rfl rfl) rfl ?_
            refine Dr.valG Grow.refl rfl (fun w hG => Runs.fieldB 1 rfl rfl Try.underlying35 rfl (by kernel_rfl)) rfl rfl rfl ?_
            refine Dr.valG Grow.refl rfl (fun w hG => Runs.loadB rfl rfl Try.underlying2 rfl (k1.step hG) rfl) rfl rfl rfl ?_
            refine Dr.valG Grow.refl rfl (fun w hG => (Runs.neqI rfl rfl rfl).isF (by omega)) rfl rfl rfl ?_
            refine Dr.valG Grow.refl rfl (fun w hG => Runs.move rfl rfl) rfl rfl rfl ?_
            refine Dr.skip rfl rfl rfl rfl rfl ?_
            refine Dr.skip rfl rfl rfl rfl rfl ?_
            refine Dr.skip rfl rfl rfl rfl rfl ?_
            refine Dr.valG Grow.refl rfl (fun w hG => Runs.pickF rfl rfl rfl) rfl rfl rfl ?_
            refine Dr.valG Grow.refl rfl (fun w hG => Runs.move rfl rfl) rfl rfl rfl ?_
            refine Dr.skip rfl rfl rfl rfl rfl ?_
            refine Dr.skip rfl rfl rfl rfl rfl ?_
            refine Dr.skip rfl rfl rfl rfl rfl ?_
            refine Dr.valG Grow.refl rfl (fun w hG => Runs.pickF rfl rfl rfl) rfl rfl rfl ?_
            refine Dr.val Grow.refl rfl (fun w hG => Runs.pickF rfl rfl rfl) rfl ?_
            refine Dr.val Grow.refl rfl (fun w hG => Runs.move rfl rfl) rfl ?_
            refine Dr.valG Grow.refl rfl (fun w hG => Runs.fieldB 2 rfl rfl Try.underlying35 rfl (by kernel_rfl)) rfl rfl rfl ?_
            refine Dr.valG Grow.refl rfl (fun w hG => Runs.loadB rfl rfl Try.underlying9 rfl (k1.step hG) rfl) rfl rfl rfl ?_
            refine Dr.valG Grow.refl rfl (fun w hG => (Runs.neqL (b := []) rfl rfl rfl HB1 HB2).isT (h5)) rfl rfl rfl ?_
            refine Dr.valG Grow.refl rfl (fun w hG => Runs.move rfl rfl) rfl rfl rfl ?_
            refine Dr.valG Grow.refl rfl (fun w hG => Runs.fieldB 0 rfl rfl Try.underlying35 rfl (by kernel_rfl)) rfl rfl rfl ?_
            refine Dr.valG Grow.refl rfl (fun w hG => Runs.loadB rfl rfl Try.underlying3 rfl (k1.step hG) rfl) rfl rfl rfl ?_
            refine Dr.valG Grow.refl rfl (fun w hG => (Runs.neqI rfl rfl rfl).isF (by omega)) rfl rfl rfl ?_
            refine Dr.valG Grow.refl rfl (fun w hG => Runs.pickT rfl rfl rfl) rfl rfl rfl ?_
            refine Dr.val Grow.refl rfl (fun w hG => Runs.pickF rfl rfl rfl) rfl ?_
            refine Dr.nil ?_
            refine FinX.done (F' := [(0, _), (1, _), (2, _), (34, _)]) rfl ⟨rfl, rfl, rfl, rfl, trivial⟩ ?_
            intro w3 hw3 fw3
            replace bel := bel.step hw3
            replace k1 := k1.step hw3
            refine Seq.nil ?_
            refine Post.weak (F' := [(0, _), (1, _), (2, _), (34, _)]) ⟨rfl, rfl, rfl, rfl, trivial⟩ ?_
            refine Post.then_ ?_
            refine Cd.condF rfl rfl ?_
            refine Cd.skip ?_
            exact Post.join () ⟨rfl, trivial⟩ ⟨⟨h1, .inl h2, .inr h6⟩, bel, k1⟩
          · skip
            refine Cd.seq ?_
            refine Cd.draw 32 (by kernel_rfl) [] (.inl rfl) rfl Grow Grow.refl (fun _ _ _ => Grow.trans) ?_
            intro w2 hw2 zw2
            replace bel := bel.step hw2
            replace k1 := k1.step hw2
            have zbel := bel.size
            have zlt := k1.lt
            refine Dr.val Grow.refl rfl (fun w hG => Runs.fieldB 0 rfl rfl Try.underlying35 rfl (by kernel_rfl)) rfl ?_
            refine Dr.val Grow.refl rfl (fun w hG => Runs.loadB rfl rfl Try.underlying3 rfl (k1.step hG) rfl) rfl ?_
            refine Dr.callV rfl (fun w => Enters.func rfl rfl rfl (run_enter Try.func126 (by kernel_rfl) rfl)) rfl (fun w hG => arity_any op w) ?_
            refine Dr.val Grow.refl rfl (fun w hG => Runs.fieldB 3 rfl rfl Try.underlying35 rfl (by kernel_rfl)) rfl ?_
            refine Dr.val Grow.refl rfl (fun w hG => Runs.loadB rfl rfl Try.underlying25 rfl (k1.step hG) rfl) rfl ?_
            refine Dr.val Grow.refl rfl (fun w hG => Runs.len rfl rfl Try.underlying25) rfl ?_
            refine Dr.val Grow.refl rfl (fun w hG => (Runs.neqI rfl rfl rfl).isF (by omega)) rfl ?_
            refine Dr.val Grow.refl rfl (fun w hG => Runs.move rfl rfl) rfl ?_
            refine Dr.valG Grow.refl rfl (fun w hG => Runs.fieldB 1 rfl rfl Try.underlying35 rfl (by kernel_rfl)) rfl rfl rfl ?_
            refine Dr.valG Grow.refl rfl (fun w hG => Runs.loadB rfl rfl Try.underlying2 rfl (k1.step hG) rfl) rfl rfl rfl ?_
            refine Dr.valG Grow.refl rfl (fun w hG => (Runs.neqI rfl rfl rfl).isF (by omega)) rfl rfl rfl ?_
            refine Dr.valG Grow.refl rfl (fun w hG => Runs.move rfl rfl) rfl rfl rfl ?_
            refine Dr.skip rfl rfl rfl rfl rfl ?_
            refine Dr.skip rfl rfl rfl rfl rfl ?_
            refine Dr.skip rfl rfl rfl rfl rfl ?_
            refine Dr.valG Grow.refl rfl (fun w hG => Runs.pickF rfl rfl rfl) rfl rfl rfl ?_
            refine Dr.valG Grow.refl rfl (fun w hG => Runs.move rfl rfl) rfl rfl rfl ?_
            refine Dr.skip rfl rfl rfl rfl rfl ?_
            refine Dr.skip rfl rfl rfl rfl rfl ?_
            refine Dr.skip rfl rfl rfl rfl rfl ?_
            refine Dr.valG Grow.refl rfl (fun w hG => Runs.pickF rfl rfl rfl) rfl rfl rfl ?_
            refine Dr.val Grow.refl rfl (fun w hG => Runs.pickF rfl rfl rfl) rfl ?_
            refine Dr.val Grow.refl rfl (fun w hG => Runs.move rfl rfl) rfl ?_
            refine Dr.valG Grow.refl rfl (fun w hG => Runs.fieldB 2 rfl rfl Try.underlying35 rfl (by kernel_rfl)) rfl rfl rfl ?_
            refine Dr.valG Grow.refl rfl (fun w hG => Runs.loadB rfl rfl Try.underlying9 rfl (k1.step hG) rfl) rfl rfl rfl ?_
            refine Dr.valG Grow.refl rfl (fun w hG => (Runs.neqL (b := []) rfl rfl rfl HB1 HB2).isT (h5)) rfl rfl rfl ?_
            refine Dr.valG Grow.refl rfl (fun w hG => Runs.move rfl rfl) rfl rfl rfl ?_
            refine Dr.valG Grow.refl rfl (fun w hG => Runs.fieldB 0 rfl rfl Try.underlying35 rfl (by kernel_rfl)) rfl rfl rfl ?_
            refine Dr.valG Grow.refl rfl (fun w hG => Runs.loadB rfl rfl Try.underlying3 rfl (k1.step hG) rfl) rfl rfl rfl ?_
            refine Dr.valG Grow.refl rfl (fun w hG => (Runs.neqI rfl rfl rfl).isT (h6)) rfl rfl rfl ?_
            refine Dr.valG Grow.refl rfl (fun w hG => Runs.pickT rfl rfl rfl) rfl rfl rfl ?_
            refine Dr.val Grow.refl rfl (fun w hG => Runs.pickF rfl rfl rfl) rfl ?_
            refine Dr.nil ?_
            refine FinX.done (F' := [(0, _), (1, _), (2, _), (34, _)]) rfl ⟨rfl, rfl, rfl, rfl, trivial⟩ ?_
            intro w3 hw3 fw3
            replace bel := bel.step hw3
            replace k1 := k1.step hw3
            refine Seq.nil ?_
            refine Post.weak (F' := [(0, _), (1, _), (2, _), (34, _)]) ⟨rfl, rfl, rfl, rfl, trivial⟩ ?_
            refine Post.then_ ?_
            refine Cd.condT rfl rfl ?_
            refine Cd.seq ?_
            refine Cd.region ?_
            refine Seq.val (Runs.assign rfl rfl) rfl rfl rfl ?_
            refine Seq.nil ?_
            refine Post.weak (F' := [(0, _), (1, _), (2, _), (34, _)]) ⟨rfl, rfl, rfl, rfl, trivial⟩ ?_
            refine Post.then_ ?_
            refine Cd.ret ?_
            refine Post.then_ret ?_
            refine Post.end1 rfl rfl (.inl rfl) ?_
            rw [hbf (by rintro ⟨-, -, h, -⟩; rcases h with h | h; exact h5 h; exact h6 h)]
            exact ⟨rfl, bel⟩
      · by_cases h3 : op = 1
        · skip
          by_cases h5 : nm = []
          · skip
            refine Cd.seq ?_
            refine Cd.draw 32 (by kernel_rfl) [] (.inl rfl) rfl Grow Grow.refl (fun _ _ _ => Grow.trans) ?_
            intro w2 hw2 zw2
            replace bel := bel.step hw2
            replace k1 := k1.step hw2
            have zbel := bel.size
            have zlt := k1.lt
            refine Dr.val Grow.refl rfl (fun w hG => Runs.fieldB 0 rfl rfl Try.underlying35 rfl (by kernel_rfl)) rfl ?_
            refine Dr.val Grow.refl rfl (fun w hG => Runs.loadB rfl rfl Try.underlying3 rfl (k1.step hG) rfl) rfl ?_
            refine Dr.callV rfl (fun w => Enters.func rfl rfl rfl (run_enter Try.func126 (by kernel_rfl) rfl)) rfl (fun w hG => arity_any op w) ?_
            refine Dr.val Grow.refl rfl (fun w hG => Runs.fieldB 3 rfl rfl Try.underlying35 rfl (by kernel_rfl)) rfl ?_
            refine Dr.val Grow.refl rfl (fun w hG => Runs.loadB rfl rfl Try.underlying25 rfl (k1.step hG) rfl) rfl ?_
            refine Dr.val Grow.refl rfl (fun w hG => Runs.len rfl rfl Try.underlying25) rfl ?_
            refine Dr.val Grow.refl rfl (fun w hG => (Runs.neqI rfl rfl rfl).isF (by omega)) rfl ?_
            refine Dr.val Grow.refl rfl (fun w hG => Runs.move rfl rfl) rfl ?_
            refine Dr.valG Grow.refl rfl (fun w hG => Runs.fieldB 1 rfl rfl Try.underlying35 rfl (by kernel_rfl)) rfl rfl rfl ?_
            refine Dr.valG Grow.refl rfl (fun w hG => Runs.loadB rfl rfl Try.underlying2 rfl (k1.step hG) rfl) rfl rfl rfl ?_
            refine Dr.valG Grow.refl rfl (fun w hG => (Runs.neqI rfl rfl rfl).isT (h2)) rfl rfl rfl ?_
            refine Dr.valG Grow.refl rfl (fun w hG => Runs.move rfl rfl) rfl rfl rfl ?_
            refine Dr.valG Grow.refl rfl (fun w hG => Runs.fieldB 0 rfl rfl Try.underlying35 rfl (by kernel_rfl)) rfl rfl rfl ?_
            refine Dr.valG Grow.refl rfl (fun w hG => Runs.loadB rfl rfl Try.underlying3 rfl (k1.step hG) rfl) rfl rfl rfl ?_
            refine Dr.valG Grow.refl rfl (fun w hG => (Runs.neqI rfl rfl rfl).isF (by omega)) rfl rfl rfl ?_
            refine Dr.valG Grow.refl rfl (fun w hG => Runs.pickT rfl rfl rfl) rfl rfl rfl ?_
            refine Dr.valG Grow.refl rfl (fun w hG => Runs.move rfl rfl) rfl rfl rfl ?_
            refine Dr.skip rfl rfl rfl rfl rfl ?_
            refine Dr.skip rfl rfl rfl rfl rfl ?_
            refine Dr.skip rfl rfl rfl rfl rfl ?_
            refine Dr.valG Grow.refl rfl (fun w hG => Runs.pickF rfl rfl rfl) rfl rfl rfl ?_
            refine Dr.val Grow.refl rfl (fun w hG => Runs.pickF rfl rfl rfl) rfl ?_
            refine Dr.val Grow.refl rfl (fun w hG => Runs.move rfl rfl) rfl ?_
            refine Dr.valG Grow.refl rfl (fun w hG => Runs.fieldB 2 rfl rfl Try.underlying35 rfl (by kernel_rfl)) rfl rfl rfl ?_
            refine Dr.valG Grow.refl rfl (fun w hG => Runs.loadB rfl rfl Try.underlying9 rfl (k1.step hG) rfl) rfl rfl rfl ?_
            refine Dr.valG Grow.refl rfl (fun w hG => (Runs.neqL (b := []) rfl rfl rfl HB1 HB2).isF (by simp [h5])) rfl rfl rfl ?_
            refine Dr.valG Grow.refl rfl (fun w hG => Runs.move rfl rfl) rfl rfl rfl ?_
            refine Dr.skip rfl rfl rfl rfl rfl ?_
            refine Dr.skip rfl rfl rfl rfl rfl ?_
            refine Dr.skip rfl rfl rfl rfl rfl ?_
            refine Dr.valG Grow.refl rfl (fun w hG => Runs.pickF rfl rfl rfl) rfl rfl rfl ?_
            refine Dr.val Grow.refl rfl (fun w hG => Runs.pickF rfl rfl rfl) rfl ?_
            refine Dr.nil ?_
            refine FinX.done (F' := [(0, _), (1, _), (2, _), (34, _)]) rfl ⟨rfl, rfl, rfl, rfl, trivial⟩ ?_
            intro w3 hw3 fw3
            replace bel := bel.step hw3
            replace k1 := k1.step hw3
            refine Seq.nil ?_
            refine Post.weak (F' := [(0, _), (1, _), (2, _), (34, _)]) ⟨rfl, rfl, rfl, rfl, trivial⟩ ?_
            refine Post.then_ ?_
            refine Cd.condF rfl rfl ?_
            refine Cd.skip ?_
            exact Post.join () ⟨rfl, trivial⟩ ⟨⟨h1, .inr (.inl h3), .inl h5⟩, bel, k1⟩
          · by_cases h6 : op = 3
            · skip
              refine Cd.seq ?_
              refine Cd.draw 32 (by kernel_rfl) [] (.inl rfl) rfl Grow Grow.refl (fun _ _ _ => Grow.trans) ?_
              intro w2 hw2 zw2
              replace bel := bel.step hw2
              replace k1 := k1.step hw2
              have zbel := bel.size
              have zlt := k1.lt
              refine Dr.val Grow.refl rfl (fun w hG => Runs.fieldB 0 rfl rfl Try.underlying35 rfl (by kernel_rfl)) rfl ?_
              refine Dr.val Grow.refl rfl (fun w hG => Runs.loadB rfl rfl Try.underlying3 rfl (k1.step hG) rfl) rfl ?_
              refine Dr.callV rfl (fun w => Enters.func rfl rfl rfl (run_enter Try.func126 (by kernel_rfl) rfl)) rfl (fun w hG => arity_any op w) ?_
              refine Dr.val Grow.refl rfl (fun w hG => Runs.fieldB 3 rfl rfl Try.underlying35 rfl (by kernel_rfl)) rfl ?_
              refine Dr.val Grow.refl rfl (fun w hG => Runs.loadB rfl rfl Try.underlying25 rfl (k1.step hG) rfl) rfl ?_
              refine Dr.val Grow.refl rfl (fun w hG => Runs.len rfl rfl Try.underlying25) rfl ?_
              refine Dr.val Grow.refl rfl (fun w hG => (Runs.neqI rfl rfl rfl).isF (by omega)) rfl ?_
              refine Dr.val Grow.refl rfl (fun w hG => Runs.move rfl rfl) rfl ?_
              refine Dr.valG Grow.refl rfl (fun w hG => Runs.fieldB 1 rfl rfl Try.underlying35 rfl (by kernel_rfl)) rfl rfl rfl ?_
              refine Dr.valG Grow.refl rfl (fun w hG => Runs.loadB rfl rfl Try.underlying2 rfl (k1.step hG) rfl) rfl rfl rfl ?_
              refine Dr.valG Grow.refl rfl (fun w hG => (Runs.neqI rfl rfl rfl).isT (h2)) rfl rfl rfl ?_
              refine Dr.valG Grow.refl rfl (fun w hG => Runs.move rfl rfl) rfl rfl rfl ?_
              refine Dr.valG Grow.refl rfl (fun w hG => Runs.fieldB 0 rfl rfl Try.underlying35 rfl (by kernel_rfl)) rfl rfl rfl ?_
              refine Dr.valG Grow.refl rfl (fun w hG => Runs.loadB rfl rfl Try.underlying3 rfl (k1.step hG) rfl) rfl rfl rfl ?_
              refine Dr.valG Grow.refl rfl (fun w hG => (Runs.neqI rfl rfl rfl).isF (by omega)) rfl rfl rfl ?_
              refine Dr.valG Grow.refl rfl (fun w hG => Runs.pickT rfl rfl rfl) rfl rfl rfl ?_
              refine Dr.valG Grow.refl rfl (fun w hG => Runs.move rfl rfl) rfl rfl rfl ?_
              refine Dr.skip rfl rfl rfl rfl rfl ?_
              refine Dr.skip rfl rfl rfl rfl rfl ?_
              refine Dr.skip rfl rfl rfl rfl rfl ?_
              refine Dr.valG Grow.refl rfl (fun w hG => Runs.pickF rfl rfl rfl) rfl rfl rfl ?_
              refine Dr.val Grow.refl rfl (fun w hG => Runs.pickF rfl rfl rfl) rfl ?_
              refine Dr.val Grow.refl rfl (fun w hG => Runs.move rfl rfl) rfl ?_
              refine Dr.valG Grow.refl rfl (fun w hG => Runs.fieldB 2 rfl rfl Try.underlying35 rfl (by kernel_rfl)) rfl rfl rfl ?_
              refine Dr.valG Grow.refl rfl (fun w hG => Runs.loadB rfl rfl Try.underlying9 rfl (k1.step hG) rfl) rfl rfl rfl ?_
              refine Dr.valG Grow.refl rfl (fun w hG => (Runs.neqL (b := []) rfl rfl rfl HB1 HB2).isT (h5)) rfl rfl rfl ?_
              refine Dr.valG Grow.refl rfl (fun w hG => Runs.move rfl rfl) rfl rfl rfl ?_
              refine Dr.valG Grow.refl rfl (fun w hG => Runs.fieldB 0 rfl rfl Try.underlying35 rfl (by kernel_rfl)) rfl rfl rfl ?_
              refine Dr.valG Grow.refl rfl (fun w hG => Runs.loadB rfl rfl Try.underlying3 rfl (k1.step hG) rfl) rfl rfl rfl ?_
              refine Dr.valG Grow.refl rfl (fun w hG => (Runs.neqI rfl rfl rfl).isF (by omega)) rfl rfl rfl ?_
              refine Dr.valG Grow.refl rfl (fun w hG => Runs.pickT rfl rfl rfl) rfl rfl rfl ?_
              refine Dr.val Grow.refl rfl (fun w hG => Runs.pickF rfl rfl rfl) rfl ?_
              refine Dr.nil ?_
              refine FinX.done (F' := [(0, _), (1, _), (2, _), (34, _)]) rfl ⟨rfl, rfl, rfl, rfl, trivial⟩ ?_
              intro w3 hw3 fw3
              replace bel := bel.step hw3
              replace k1 := k1.step hw3
              refine Seq.nil ?_
              refine Post.weak (F' := [(0, _), (1, _), (2, _), (34, _)]) ⟨rfl, rfl, rfl, rfl, trivial⟩ ?_
              refine Post.then_ ?_
              refine Cd.condF rfl rfl ?_
              refine Cd.skip ?_
              exact Post.join () ⟨rfl, trivial⟩ ⟨⟨h1, .inr (.inl h3), .inr h6⟩, bel, k1⟩
            · skip
              refine Cd.seq ?_
              refine Cd.draw 32 (by kernel_rfl) [] (.inl rfl) rfl Grow Grow.refl (fun _ _ _ => Grow.trans) ?_
              intro w2 hw2 zw2
              replace bel := bel.step hw2
              replace k1 := k1.step hw2
              have zbel := bel.size
              have zlt := k1.lt
              refine Dr.val Grow.refl rfl (fun w hG => Runs.fieldB 0 rfl rfl Try.underlying35 rfl (by kernel_rfl)) rfl ?_
              refine Dr.val Grow.refl rfl (fun w hG => Runs.loadB rfl rfl Try.underlying3 rfl (k1.step hG) rfl) rfl ?_
              refine Dr.callV rfl (fun w => Enters.func rfl rfl rfl (run_enter Try.func126 (by kernel_rfl) rfl)) rfl (fun w hG => arity_any op w) ?_
              refine Dr.val Grow.refl rfl (fun w hG => Runs.fieldB 3 rfl rfl Try.underlying35 rfl (by kernel_rfl)) rfl ?_
              refine Dr.val Grow.refl rfl (fun w hG => Runs.loadB rfl rfl Try.underlying25 rfl (k1.step hG) rfl) rfl ?_
              refine Dr.val Grow.refl rfl (fun w hG => Runs.len rfl rfl Try.underlying25) rfl ?_
              refine Dr.val Grow.refl rfl (fun w hG => (Runs.neqI rfl rfl rfl).isF (by omega)) rfl ?_
              refine Dr.val Grow.refl rfl (fun w hG => Runs.move rfl rfl) rfl ?_
              refine Dr.valG Grow.refl rfl (fun w hG => Runs.fieldB 1 rfl rfl Try.underlying35 rfl (by kernel_rfl)) rfl rfl rfl ?_
              refine Dr.valG Grow.refl rfl (fun w hG => Runs.loadB rfl rfl Try.underlying2 rfl (k1.step hG) rfl) rfl rfl rfl ?_
              refine Dr.valG Grow.refl rfl (fun w hG => (Runs.neqI rfl rfl rfl).isT (h2)) rfl rfl rfl ?_
              refine Dr.valG Grow.refl rfl (fun w hG => Runs.move rfl rfl) rfl rfl rfl ?_
              refine Dr.valG Grow.refl rfl (fun w hG => Runs.fieldB 0 rfl rfl Try.underlying35 rfl (by kernel_rfl)) rfl rfl rfl ?_
              refine Dr.valG Grow.refl rfl (fun w hG => Runs.loadB rfl rfl Try.underlying3 rfl (k1.step hG) rfl) rfl rfl rfl ?_
              refine Dr.valG Grow.refl rfl (fun w hG => (Runs.neqI rfl rfl rfl).isF (by omega)) rfl rfl rfl ?_
              refine Dr.valG Grow.refl rfl (fun w hG => Runs.pickT rfl rfl rfl) rfl rfl rfl ?_
              refine Dr.valG Grow.refl rfl (fun w hG => Runs.move rfl rfl) rfl rfl rfl ?_
              refine Dr.skip rfl rfl rfl rfl rfl ?_
              refine Dr.skip rfl rfl rfl rfl rfl ?_
              refine Dr.skip rfl rfl rfl rfl rfl ?_
              refine Dr.valG Grow.refl rfl (fun w hG => Runs.pickF rfl rfl rfl) rfl rfl rfl ?_
              refine Dr.val Grow.refl rfl (fun w hG => Runs.pickF rfl rfl rfl) rfl ?_
              refine Dr.val Grow.refl rfl (fun w hG => Runs.move rfl rfl) rfl ?_
              refine Dr.valG Grow.refl rfl (fun w hG => Runs.fieldB 2 rfl rfl Try.underlying35 rfl (by kernel_rfl)) rfl rfl rfl ?_
              refine Dr.valG Grow.refl rfl (fun w hG => Runs.loadB rfl rfl Try.underlying9 rfl (k1.step hG) rfl) rfl rfl rfl ?_
              refine Dr.valG Grow.refl rfl (fun w hG => (Runs.neqL (b := []) rfl rfl rfl HB1 HB2).isT (h5)) rfl rfl rfl ?_
              refine Dr.valG Grow.refl rfl (fun w hG => Runs.move rfl rfl) rfl rfl rfl ?_
              refine Dr.valG Grow.refl rfl (fun w hG => Runs.fieldB 0 rfl rfl Try.underlying35 rfl (by kernel_rfl)) rfl rfl rfl ?_
              refine Dr.valG Grow.refl rfl (fun w hG => Runs.loadB rfl rfl Try.underlying3 rfl (k1.step hG) rfl) rfl rfl rfl ?_
              refine Dr.valG Grow.refl rfl (fun w hG => (Runs.neqI rfl rfl rfl).isT (h6)) rfl rfl rfl ?_
              refine Dr.valG Grow.refl rfl (fun w hG => Runs.pickT rfl rfl rfl) rfl rfl rfl ?_
              refine Dr.val Grow.refl rfl (fun w hG => Runs.pickF rfl rfl rfl) rfl ?_
              refine Dr.nil ?_
              refine FinX.done (F' := [(0, _), (1, _), (2, _), (34, _)]) rfl ⟨rfl, rfl, rfl, rfl, trivial⟩ ?_
              intro w3 hw3 fw3
              replace bel := bel.step hw3
              replace k1 := k1.step hw3
              refine Seq.nil ?_
              refine Post.weak (F' := [(0, _), (1, _), (2, _), (34, _)]) ⟨rfl, rfl, rfl, rfl, trivial⟩ ?_
              refine Post.then_ ?_
              refine Cd.condT rfl rfl ?_
              refine Cd.seq ?_
              refine Cd.region ?_
              refine Seq.val (Runs.assign rfl rfl) rfl rfl rfl ?_
              refine Seq.nil ?_
              refine Post.weak (F' := [(0, _), (1, _), (2, _), (34, _)]) ⟨rfl, rfl, rfl, rfl, trivial⟩ ?_
              refine Post.then_ ?_
              refine Cd.ret ?_
              refine Post.then_ret ?_
              refine Post.end1 rfl rfl (.inl rfl) ?_
              rw [hbf (by rintro ⟨-, -, h, -⟩; rcases h with h | h; exact h5 h; exact h6 h)]
              exact ⟨rfl, bel⟩
        · by_cases h4 : op = 2
          · skip
            by_cases h5 : nm = []
            · skip
              refine Cd.seq ?_
              refine Cd.draw 32 (by kernel_rfl) [] (.inl rfl) rfl Grow Grow.refl (fun _ _ _ => Grow.trans) ?_
              intro w2 hw2 zw2
              replace bel := bel.step hw2
              replace k1 := k1.step hw2
              have zbel := bel.size
              have zlt := k1.lt
              refine Dr.val Grow.refl rfl (fun w hG => Runs.fieldB 0 rfl rfl Try.underlying35 rfl (by kernel_rfl)) rfl ?_
              refine Dr.val Grow.refl rfl (fun w hG => Runs.loadB rfl rfl Try.underlying3 rfl (k1.step hG) rfl) rfl ?_
              refine Dr.callV rfl (fun w => Enters.func rfl rfl rfl (run_enter Try.func126 (by kernel_rfl) rfl)) rfl (fun w hG => arity_any op w) ?_
              refine Dr.val Grow.refl rfl (fun w hG => Runs.fieldB 3 rfl rfl Try.underlying35 rfl (by kernel_rfl)) rfl ?_
              refine Dr.val Grow.refl rfl (fun w hG => Runs.loadB rfl rfl Try.underlying25 rfl (k1.step hG) rfl) rfl ?_
              refine Dr.val Grow.refl rfl (fun w hG => Runs.len rfl rfl Try.underlying25) rfl ?_
              refine Dr.val Grow.refl rfl (fun w hG => (Runs.neqI rfl rfl rfl).isF (by omega)) rfl ?_
              refine Dr.val Grow.refl rfl (fun w hG => Runs.move rfl rfl) rfl ?_
              refine Dr.valG Grow.refl rfl (fun w hG => Runs.fieldB 1 rfl rfl Try.underlying35 rfl (by kernel_rfl)) rfl rfl rfl ?_
              refine Dr.valG Grow.refl rfl (fun w hG => Runs.loadB rfl rfl Try.underlying2 rfl (k1.step hG) rfl) rfl rfl rfl ?_
              refine Dr.valG Grow.refl rfl (fun w hG => (Runs.neqI rfl rfl rfl).isT (h2)) rfl rfl rfl ?_
              refine Dr.valG Grow.refl rfl (fun w hG => Runs.move rfl rfl) rfl rfl rfl ?_
              refine Dr.valG Grow.refl rfl (fun w hG => Runs.fieldB 0 rfl rfl Try.underlying35 rfl (by kernel_rfl)) rfl rfl rfl ?_
              refine Dr.valG Grow.refl rfl (fun w hG => Runs.loadB rfl rfl Try.underlying3 rfl (k1.step hG) rfl) rfl rfl rfl ?_
              refine Dr.valG Grow.refl rfl (fun w hG => (Runs.neqI rfl rfl rfl).isT (h3)) rfl rfl rfl ?_
              refine Dr.valG Grow.refl rfl (fun w hG => Runs.pickT rfl rfl rfl) rfl rfl rfl ?_
              refine Dr.valG Grow.refl rfl (fun w hG => Runs.move rfl rfl) rfl rfl rfl ?_
              refine Dr.valG Grow.refl rfl (fun w hG => Runs.fieldB 0 rfl rfl Try.underlying35 rfl (by kernel_rfl)) rfl rfl rfl ?_
              refine Dr.valG Grow.refl rfl (fun w hG => Runs.loadB rfl rfl Try.underlying3 rfl (k1.step hG) rfl) rfl rfl rfl ?_
              refine Dr.valG Grow.refl rfl (fun w hG => (Runs.neqI rfl rfl rfl).isF (by omega)) rfl rfl rfl ?_
              refine Dr.valG Grow.refl rfl (fun w hG => Runs.pickT rfl rfl rfl) rfl rfl rfl ?_
              refine Dr.val Grow.refl rfl (fun w hG => Runs.pickF rfl rfl rfl) rfl ?_
              refine Dr.val Grow.refl rfl (fun w hG => Runs.move rfl rfl) rfl ?_
              refine Dr.valG Grow.refl rfl (fun w hG => Runs.fieldB 2 rfl rfl Try.underlying35 rfl (by kernel_rfl)) rfl rfl rfl ?_
              refine Dr.valG Grow.refl rfl (fun w hG => Runs.loadB rfl rfl Try.underlying9 rfl (k1.step hG) rfl) rfl rfl rfl ?_
              refine Dr.valG Grow.refl rfl (fun w hG => (Runs.neqL (b := []) rfl rfl rfl HB1 HB2).isF (by simp [h5])) rfl rfl rfl ?_
              refine Dr.valG Grow.refl rfl (fun w hG => Runs.move rfl rfl) rfl rfl rfl ?_
              refine Dr.skip rfl rfl rfl rfl rfl ?_
              refine Dr.skip rfl rfl rfl rfl rfl ?_
              refine Dr.skip rfl rfl rfl rfl rfl ?_
              refine Dr.valG Grow.refl rfl (fun w hG => Runs.pickF rfl rfl rfl) rfl rfl rfl ?_
              refine Dr.val Grow.refl rfl (fun w hG => Runs.pickF rfl rfl rfl) rfl ?_
              refine Dr.nil ?_
              refine FinX.done (F' := [(0, _), (1, _), (2, _), (34, _)]) rfl ⟨rfl, rfl, rfl, rfl, trivial⟩ ?_
              intro w3 hw3 fw3
              replace bel := bel.step hw3
              replace k1 := k1.step hw3
              refine Seq.nil ?_
              refine Post.weak (F' := [(0, _), (1, _), (2, _), (34, _)]) ⟨rfl, rfl, rfl, rfl, trivial⟩ ?_
              refine Post.then_ ?_
              refine Cd.condF rfl rfl ?_
              refine Cd.skip ?_
              exact Post.join () ⟨rfl, trivial⟩ ⟨⟨h1, .inr (.inr h4), .inl h5⟩, bel, k1⟩
            · by_cases h6 : op = 3
              · skip
                refine Cd.seq ?_
                refine Cd.draw 32 (by kernel_rfl) [] (.inl rfl) rfl Grow Grow.refl (fun _ _ _ => Grow.trans) ?_
                intro w2 hw2 zw2
                replace bel := bel.step hw2
                replace k1 := k1.step hw2
                have zbel := bel.size
                have zlt := k1.lt
                refine Dr.val Grow.refl rfl (fun w hG => Runs.fieldB 0 rfl rfl Try.underlying35 rfl (by kernel_rfl)) rfl ?_
                refine Dr.val Grow.refl rfl (fun w hG => Runs.loadB rfl rfl Try.underlying3 rfl (k1.step hG) rfl) rfl ?_
                refine Dr.callV rfl (fun w => Enters.func rfl rfl rfl (run_enter Try.func126 (by kernel_rfl) rfl)) rfl (fun w hG => arity_any op w) ?_
                refine Dr.val Grow.refl rfl (fun w hG => Runs.fieldB 3 rfl rfl Try.underlying35 rfl (by kernel_rfl)) rfl ?_
                refine Dr.val Grow.refl rfl (fun w hG => Runs.loadB rfl rfl Try.underlying25 rfl (k1.step hG) rfl) rfl ?_
                refine Dr.val Grow.refl rfl (fun w hG => Runs.len rfl rfl Try.underlying25) rfl ?_
                refine Dr.val Grow.refl rfl (fun w hG => (Runs.neqI rfl rfl rfl).isF (by omega)) rfl ?_
                refine Dr.val Grow.refl rfl (fun w hG => Runs.move rfl rfl) rfl ?_
                refine Dr.valG Grow.refl rfl (fun w hG => Runs.fieldB 1 rfl rfl Try.underlying35 rfl (by kernel_rfl)) rfl rfl rfl ?_
                refine Dr.valG Grow.refl rfl (fun w hG => Runs.loadB rfl rfl Try.underlying2 rfl (k1.step hG) rfl) rfl rfl rfl ?_
                refine Dr.valG Grow.refl rfl (fun w hG => (Runs.neqI rfl rfl rfl).isT (h2)) rfl rfl rfl ?_
                refine Dr.valG Grow.refl rfl (fun w hG => Runs.move rfl rfl) rfl rfl rfl ?_
                refine Dr.valG Grow.refl rfl (fun w hG => Runs.fieldB 0 rfl rfl Try.underlying35 rfl (by kernel_rfl)) rfl rfl rfl ?_
                refine Dr.valG Grow.refl rfl (fun w hG => Runs.loadB rfl rfl Try.underlying3 rfl (k1.step hG) rfl) rfl rfl rfl ?_
                refine Dr.valG Grow.refl rfl (fun w hG => (Runs.neqI rfl rfl rfl).isT (h3)) rfl rfl rfl ?_
                refine Dr.valG Grow.refl rfl (fun w hG => Runs.pickT rfl rfl rfl) rfl rfl rfl ?_
                refine Dr.valG Grow.refl rfl (fun w hG => Runs.move rfl rfl) rfl rfl rfl ?_
                refine Dr.valG Grow.refl rfl (fun w hG => Runs.fieldB 0 rfl rfl Try.underlying35 rfl (by kernel_rfl)) rfl rfl rfl ?_
                refine Dr.valG Grow.refl rfl (fun w hG => Runs.loadB rfl rfl Try.underlying3 rfl (k1.step hG) rfl) rfl rfl rfl ?_
                refine Dr.valG Grow.refl rfl (fun w hG => (Runs.neqI rfl rfl rfl).isF (by omega)) rfl rfl rfl ?_
                refine Dr.valG Grow.refl rfl (fun w hG => Runs.pickT rfl rfl rfl) rfl rfl rfl ?_
                refine Dr.val Grow.refl rfl (fun w hG => Runs.pickF rfl rfl rfl) rfl ?_
                refine Dr.val Grow.refl rfl (fun w hG => Runs.move rfl rfl) rfl ?_
                refine Dr.valG Grow.refl rfl (fun w hG => Runs.fieldB 2 rfl rfl Try.underlying35 rfl (by kernel_rfl)) rfl rfl rfl ?_
                refine Dr.valG Grow.refl rfl (fun w hG => Runs.loadB rfl rfl Try.underlying9 rfl (k1.step hG) rfl) rfl rfl rfl ?_
                refine Dr.valG Grow.refl rfl (fun w hG => (Runs.neqL (b := []) rfl rfl rfl HB1 HB2).isT (h5)) rfl rfl rfl ?_
                refine Dr.valG Grow.refl rfl (fun w hG => Runs.move rfl rfl) rfl rfl rfl ?_
                refine Dr.valG Grow.refl rfl (fun w hG => Runs.fieldB 0 rfl rfl Try.underlying35 rfl (by kernel_rfl)) rfl rfl rfl ?_
                refine Dr.valG Grow.refl rfl (fun w hG => Runs.loadB rfl rfl Try.underlying3 rfl (k1.step hG) rfl) rfl rfl rfl ?_
                refine Dr.valG Grow.refl rfl (fun w hG => (Runs.neqI rfl rfl rfl).isF (by omega)) rfl rfl rfl ?_
                refine Dr.valG Grow.refl rfl (fun w hG => Runs.pickT rfl rfl rfl) rfl rfl rfl ?_
                refine Dr.val Grow.refl rfl (fun w hG => Runs.pickF rfl rfl rfl) rfl ?_
                refine Dr.nil ?_
                refine FinX.done (F' := [(0, _), (1, _), (2, _), (34, _)]) rfl ⟨rfl, rfl, rfl, rfl, trivial⟩ ?_
                intro w3 hw3 fw3
                replace bel := bel.step hw3
                replace k1 := k1.step hw3
                refine Seq.nil ?_
                refine Post.weak (F' := [(0, _), (1, _), (2, _), (34, _)]) ⟨rfl, rfl, rfl, rfl, trivial⟩ ?_
                refine Post.then_ ?_
                refine Cd.condF rfl rfl ?_
                refine Cd.skip ?_
                exact Post.join () ⟨rfl, trivial⟩ ⟨⟨h1, .inr (.inr h4), .inr h6⟩, bel, k1⟩
              · skip
                refine Cd.seq ?_
                refine Cd.draw 32 (by kernel_rfl) [] (.inl rfl) rfl Grow Grow.refl (fun _ _ _ => Grow.trans) ?_
                intro w2 hw2 zw2
                replace bel := bel.step hw2
                replace k1 := k1.step hw2
                have zbel := bel.size
                have zlt := k1.lt
                refine Dr.val Grow.refl rfl (fun w hG => Runs.fieldB 0 rfl rfl Try.underlying35 rfl (by kernel_rfl)) rfl ?_
                refine Dr.val Grow.refl rfl (fun w hG => Runs.loadB rfl rfl Try.underlying3 rfl (k1.step hG) rfl) rfl ?_
                refine Dr.callV rfl (fun w => Enters.func rfl rfl rfl (run_enter Try.func126 (by kernel_rfl) rfl)) rfl (fun w hG => arity_any op w) ?_
                refine Dr.val Grow.refl rfl (fun w hG => Runs.fieldB 3 rfl rfl Try.underlying35 rfl (by kernel_rfl)) rfl ?_
                refine Dr.val Grow.refl rfl (fun w hG => Runs.loadB rfl rfl Try.underlying25 rfl (k1.step hG) rfl) rfl ?_
                refine Dr.val Grow.refl rfl (fun w hG => Runs.len rfl rfl Try.underlying25) rfl ?_
                refine Dr.val Grow.refl rfl (fun w hG => (Runs.neqI rfl rfl rfl).isF (by omega)) rfl ?_
                refine Dr.val Grow.refl rfl (fun w hG => Runs.move rfl rfl) rfl ?_
                refine Dr.valG Grow.refl rfl (fun w hG => Runs.fieldB 1 rfl rfl Try.underlying35 rfl (by kernel_rfl)) rfl rfl rfl ?_
                refine Dr.valG Grow.refl rfl (fun w hG => Runs.loadB rfl rfl Try.underlying2 rfl (k1.step hG) rfl) rfl rfl rfl ?_
                refine Dr.valG Grow.refl rfl (fun w hG => (Runs.neqI rfl rfl rfl).isT (h2)) rfl rfl rfl ?_
                refine Dr.valG Grow.refl rfl (fun w hG => Runs.move rfl rfl) rfl rfl rfl ?_
                refine Dr.valG Grow.refl rfl (fun w hG => Runs.fieldB 0 rfl rfl Try.underlying35 rfl (by kernel_rfl)) rfl rfl rfl ?_
                refine Dr.valG Grow.refl rfl (fun w hG => Runs.loadB rfl rfl Try.underlying3 rfl (k1.step hG) rfl) rfl rfl rfl ?_
                refine Dr.valG Grow.refl rfl (fun w hG => (Runs.neqI rfl rfl rfl).isT (h3)) rfl rfl rfl ?_
                refine Dr.valG Grow.refl rfl (fun w hG => Runs.pickT rfl rfl rfl) rfl rfl rfl ?_
                refine Dr.valG Grow.refl rfl (fun w hG => Runs.move rfl rfl) rfl rfl rfl ?_
                refine Dr.valG Grow.refl rfl (fun w hG => Runs.fieldB 0 rfl rfl Try.underlying35 rfl (by kernel_rfl)) rfl rfl rfl ?_
                refine Dr.valG Grow.refl rfl (fun w hG => Runs.loadB rfl rfl Try.underlying3 rfl (k1.step hG) rfl) rfl rfl rfl ?_
                refine Dr.valG Grow.refl rfl (fun w hG => (Runs.neqI rfl rfl rfl).isF (by omega)) rfl rfl rfl ?_
                refine Dr.valG Grow.refl rfl (fun w hG => Runs.pickT rfl rfl rfl) rfl rfl rfl ?_
                refine Dr.val Grow.refl rfl (fun w hG => Runs.pickF rfl rfl rfl) rfl ?_
                refine Dr.val Grow.refl rfl (fun w hG => Runs.move rfl rfl) rfl ?_
                refine Dr.valG Grow.refl rfl (fun w hG => Runs.fieldB 2 rfl rfl Try.underlying35 rfl (by kernel_rfl)) rfl rfl rfl ?_
                refine Dr.valG Grow.refl rfl (fun w hG => Runs.loadB rfl rfl Try.underlying9 rfl (k1.step hG) rfl) rfl rfl rfl ?_
                refine Dr.valG Grow.refl rfl (fun w hG => (Runs.neqL (b := []) rfl rfl rfl HB1 HB2).isT (h5)) rfl rfl rfl ?_
                refine Dr.valG Grow.refl rfl (fun w hG => Runs.move rfl rfl) rfl rfl rfl ?_
                refine Dr.valG Grow.refl rfl (fun w hG => Runs.fieldB 0 rfl rfl Try.underlying35 rfl (by kernel_rfl)) rfl rfl rfl ?_
                refine Dr.valG Grow.refl rfl (fun w hG => Runs.loadB rfl rfl Try.underlying3 rfl (k1.step hG) rfl) rfl rfl rfl ?_
                refine Dr.valG Grow.refl rfl (fun w hG => (Runs.neqI rfl rfl rfl).isT (h6)) rfl rfl rfl ?_
                refine Dr.valG Grow.refl rfl (fun w hG => Runs.pickT rfl rfl rfl) rfl rfl rfl ?_
                refine Dr.val Grow.refl rfl (fun w hG => Runs.pickF rfl rfl rfl) rfl ?_
                refine Dr.nil ?_
                refine FinX.done (F' := [(0, _), (1, _), (2, _), (34, _)]) rfl ⟨rfl, rfl, rfl, rfl, trivial⟩ ?_
                intro w3 hw3 fw3
                replace bel := bel.step hw3
                replace k1 := k1.step hw3
                refine Seq.nil ?_
                refine Post.weak (F' := [(0, _), (1, _), (2, _), (34, _)]) ⟨rfl, rfl, rfl, rfl, trivial⟩ ?_
                refine Post.then_ ?_
                refine Cd.condT rfl rfl ?_
                refine Cd.seq ?_
                refine Cd.region ?_
                refine Seq.val (Runs.assign rfl rfl) rfl rfl rfl ?_
                refine Seq.nil ?_
                refine Post.weak (F' := [(0, _), (1, _), (2, _), (34, _)]) ⟨rfl, rfl, rfl, rfl, trivial⟩ ?_
                refine Post.then_ ?_
                refine Cd.ret ?_
                refine Post.then_ret ?_
                refine Post.end1 rfl rfl (.inl rfl) ?_
                rw [hbf (by rintro ⟨-, -, h, -⟩; rcases h with h | h; exact h5 h; exact h6 h)]
                exact ⟨rfl, bel⟩
          · skip
            refine Cd.seq ?_
            refine Cd.draw 32 (by kernel_rfl) [] (.inl rfl) rfl Grow Grow.refl (fun _ _ _ => Grow.trans) ?_
            intro w2 hw2 zw2
            replace bel := bel.step hw2
            replace k1 := k1.step hw2
            have zbel := bel.size
            have zlt := k1.lt
            refine Dr.val Grow.refl rfl (fun w hG => Runs.fieldB 0 rfl rfl Try.underlying35 rfl (by kernel_rfl)) rfl ?_
            refine Dr.val Grow.refl rfl (fun w hG => Runs.loadB rfl rfl Try.underlying3 rfl (k1.step hG) rfl) rfl ?_
            refine Dr.callV rfl (fun w => Enters.func rfl rfl rfl (run_enter Try.func126 (by kernel_rfl) rfl)) rfl (fun w hG => arity_any op w) ?_
            refine Dr.val Grow.refl rfl (fun w hG => Runs.fieldB 3 rfl rfl Try.underlying35 rfl (by kernel_rfl)) rfl ?_
            refine Dr.val Grow.refl rfl (fun w hG => Runs.loadB rfl rfl Try.underlying25 rfl (k1.step hG) rfl) rfl ?_
            refine Dr.val Grow.refl rfl (fun w hG => Runs.len rfl rfl Try.underlying25) rfl ?_
            refine Dr.val Grow.refl rfl (fun w hG => (Runs.neqI rfl rfl rfl).isF (by omega)) rfl ?_
            refine Dr.val Grow.refl rfl (fun w hG => Runs.move rfl rfl) rfl ?_
            refine Dr.valG Grow.refl rfl (fun w hG => Runs.fieldB 1 rfl rfl Try.underlying35 rfl (by kernel_rfl)) rfl rfl rfl ?_
            refine Dr.valG Grow.refl rfl (fun w hG => Runs.loadB rfl rfl Try.underlying2 rfl (k1.step hG) rfl) rfl rfl rfl ?_
            refine Dr.valG Grow.refl rfl (fun w hG => (Runs.neqI rfl rfl rfl).isT (h2)) rfl rfl rfl ?_
            refine Dr.valG Grow.refl rfl (fun w hG => Runs.move rfl rfl) rfl rfl rfl ?_
            refine Dr.valG Grow.refl rfl (fun w hG => Runs.fieldB 0 rfl rfl Try.underlying35 rfl (by kernel_rfl)) rfl rfl rfl ?_
            refine Dr.valG Grow.refl rfl (fun w hG => Runs.loadB rfl rfl Try.underlying3 rfl (k1.step hG) rfl) rfl rfl rfl ?_
            refine Dr.valG Grow.refl rfl (fun w hG => (Runs.neqI rfl rfl rfl).isT (h3)) rfl rfl rfl ?_
            refine Dr.valG Grow.refl rfl (fun w hG => Runs.pickT rfl rfl rfl) rfl rfl rfl ?_
            refine Dr.valG Grow.refl rfl (fun w hG => Runs.move rfl rfl) rfl rfl rfl ?_
            refine Dr.valG Grow.refl rfl (fun w hG => Runs.fieldB 0 rfl rfl Try.underlying35 rfl (by kernel_rfl)) rfl rfl rfl ?_
            refine Dr.valG Grow.refl rfl (fun w hG => Runs.loadB rfl rfl Try.underlying3 rfl (k1.step hG) rfl) rfl rfl rfl ?_
            refine Dr.valG Grow.refl rfl (fun w hG => (Runs.neqI rfl rfl rfl).isT (h4)) rfl rfl rfl ?_
            refine Dr.valG Grow.refl rfl (fun w hG => Runs.pickT rfl rfl rfl) rfl rfl rfl ?_
            refine Dr.val Grow.refl rfl (fun w hG => Runs.pickF rfl rfl rfl) rfl ?_
            refine Dr.val Grow.refl rfl (fun w hG => Runs.move rfl rfl) rfl ?_
            refine Dr.skip rfl rfl rfl rfl rfl ?_
            refine Dr.skip rfl rfl rfl rfl rfl ?_
            refine Dr.skip rfl rfl rfl rfl rfl ?_
            refine Dr.skip rfl rfl rfl rfl rfl ?_
            refine Dr.skipU rfl rfl rfl rfl ?_
            refine Dr.skipU rfl rfl rfl rfl ?_
            refine Dr.skipU rfl rfl rfl rfl ?_
            refine Dr.skip rfl rfl rfl rfl rfl ?_
            refine Dr.val Grow.refl rfl (fun w hG => Runs.pickT rfl rfl rfl) rfl ?_
            refine Dr.nil ?_
            refine FinX.done (F' := [(0, _), (1, _), (2, _), (34, _)]) rfl ⟨rfl, rfl, rfl, rfl, trivial⟩ ?_
            intro w3 hw3 fw3
            replace bel := bel.step hw3
            replace k1 := k1.step hw3
            refine Seq.nil ?_
            refine Post.weak (F' := [(0, _), (1, _), (2, _), (34, _)]) ⟨rfl, rfl, rfl, rfl, trivial⟩ ?_
            refine Post.then_ ?_
            refine Cd.condT rfl rfl ?_
            refine Cd.seq ?_
            refine Cd.region ?_
            refine Seq.val (Runs.assign rfl rfl) rfl rfl rfl ?_
            refine Seq.nil ?_
            refine Post.weak (F' := [(0, _), (1, _), (2, _), (34, _)]) ⟨rfl, rfl, rfl, rfl, trivial⟩ ?_
            refine Post.then_ ?_
            refine Cd.ret ?_
            refine Post.then_ret ?_
            refine Post.end1 rfl rfl (.inl rfl) ?_
            rw [hbf (by rintro ⟨-, h, -⟩; omega)]
            exact ⟨rfl, bel⟩
    · skip
      refine Cd.seq ?_
      refine Cd.draw 32 (by kernel_rfl) [] (.inl rfl) rfl Grow Grow.refl (fun _ _ _ => Grow.trans) ?_
      intro w2 hw2 zw2
      replace bel := bel.step hw2
      replace k1 := k1.step hw2
      have zbel := bel.size
      have zlt := k1.lt
      refine Dr.val Grow.refl rfl (fun w hG => Runs.fieldB 0 rfl rfl Try.underlying35 rfl (by kernel_rfl)) rfl ?_
      refine Dr.val Grow.refl rfl (fun w hG => Runs.loadB rfl rfl Try.underlying3 rfl (k1.step hG) rfl) rfl ?_
      refine Dr.callV rfl (fun w => Enters.func rfl rfl rfl (run_enter Try.func126 (by kernel_rfl) rfl)) rfl (fun w hG => arity_any op w) ?_
      refine Dr.val Grow.refl rfl (fun w hG => Runs.fieldB 3 rfl rfl Try.underlying35 rfl (by kernel_rfl)) rfl ?_
      refine Dr.val Grow.refl rfl (fun w hG => Runs.loadB rfl rfl Try.underlying25 rfl (k1.step hG) rfl) rfl ?_
      refine Dr.val Grow.refl rfl (fun w hG => Runs.len rfl rfl Try.underlying25) rfl ?_
      refine Dr.val Grow.refl rfl (fun w hG => (Runs.neqI rfl rfl rfl).isT (h1)) rfl ?_
      refine Dr.val Grow.refl rfl (fun w hG => Runs.move rfl rfl) rfl ?_
      refine Dr.skip rfl rfl rfl rfl rfl ?_
      refine Dr.skip rfl rfl rfl rfl rfl ?_
      refine Dr.skip rfl rfl rfl rfl rfl ?_
      refine Dr.skip rfl rfl rfl rfl rfl ?_
      refine Dr.skipU rfl rfl rfl rfl ?_
      refine Dr.skipU rfl rfl rfl rfl ?_
      refine Dr.skipU rfl rfl rfl rfl ?_
      refine Dr.skip rfl rfl rfl rfl rfl ?_
      refine Dr.skip rfl rfl rfl rfl rfl ?_
      refine Dr.skipU rfl rfl rfl rfl ?_
      refine Dr.skipU rfl rfl rfl rfl ?_
      refine Dr.skipU rfl rfl rfl rfl ?_
      refine Dr.skip rfl rfl rfl rfl rfl ?_
      refine Dr.val Grow.refl rfl (fun w hG => Runs.pickT rfl rfl rfl) rfl ?_
      refine Dr.val Grow.refl rfl (fun w hG => Runs.move rfl rfl) rfl ?_
      refine Dr.skip rfl rfl rfl rfl rfl ?_
      refine Dr.skip rfl rfl rfl rfl rfl ?_
      refine Dr.skip rfl rfl rfl rfl rfl ?_
      refine Dr.skip rfl rfl rfl rfl rfl ?_
      refine Dr.skipU rfl rfl rfl rfl ?_
      refine Dr.skipU rfl rfl rfl rfl ?_
      refine Dr.skipU rfl rfl rfl rfl ?_
      refine Dr.skip rfl rfl rfl rfl rfl ?_
      refine Dr.val Grow.refl rfl (fun w hG => Runs.pickT rfl rfl rfl) rfl ?_
      refine Dr.nil ?_
      refine FinX.done (F' := [(0, _), (1, _), (2, _), (34, _)]) rfl ⟨rfl, rfl, rfl, rfl, trivial⟩ ?_
      intro w3 hw3 fw3
      replace bel := bel.step hw3
      replace k1 := k1.step hw3
      refine Seq.nil ?_
      refine Post.weak (F' := [(0, _), (1, _), (2, _), (34, _)]) ⟨rfl, rfl, rfl, rfl, trivial⟩ ?_
      refine Post.then_ ?_
      refine Cd.condT rfl rfl ?_
      refine Cd.seq ?_
      refine Cd.region ?_
      refine Seq.val (Runs.assign rfl rfl) rfl rfl rfl ?_
      refine Seq.nil ?_
      refine Post.weak (F' := [(0, _), (1, _), (2, _), (34, _)]) ⟨rfl, rfl, rfl, rfl, trivial⟩ ?_
      refine Post.then_ ?_
      refine Cd.ret ?_
      refine Post.then_ret ?_
      refine Post.end1 rfl rfl (.inl rfl) ?_
      rw [hbf (by rintro ⟨h, -⟩; exact h1 h)]
      exact ⟨rfl, bel⟩
  clear bel k1
  rintro ⟨⟩ wr ⟨⟨a1, a2, a3⟩, bel, k1⟩
  refine Cd.seq ?_
  refine Cd.block ?_
  refine Cd.seq ?_
  refine Cd.seq ?_
  refine Cd.region ?_
  refine Seq.val (Runs.fieldB 1 rfl rfl Try.underlying35 rfl (by kernel_rfl)) rfl rfl rfl ?_
  refine Seq.val (Runs.loadB rfl rfl Try.underlying2 rfl k1 rfl) rfl rfl rfl ?_
  refine Seq.val (Runs.lss rfl rfl rfl) rfl rfl rfl ?_
  refine Seq.val (Runs.assign rfl rfl) rfl rfl rfl ?_
  refine Seq.nil ?_
  refine Post.weak (F' := [(1, _), (35, _)]) ⟨rfl, rfl, trivial⟩ ?_
  refine Post.then_ ?_
  refine Cd.condD rfl (fun hc => ?_) (fun hc => ?_)
  · skip
    refine Cd.skip ?_
    refine Post.then_ ?_
    refine Cd.condT rfl (decide_eq_true (by assumption)) ?_
    refine Cd.seq ?_
    refine Cd.region ?_
    refine Seq.val (Runs.assign rfl rfl) rfl rfl rfl ?_
    refine Seq.nil ?_
    refine Post.weak (F' := [(1, _), (2, _), (35, _)]) ⟨rfl, rfl, rfl, trivial⟩ ?_
    refine Post.then_ ?_
    refine Cd.ret ?_
    refine Post.block_ret ?_
    refine Post.then_ret ?_
    refine Post.end1 rfl rfl (.inl rfl) ?_
    rw [hbf (by omega)]
    exact ⟨rfl, bel⟩
  · skip
    refine Cd.seq ?_
    refine Cd.region ?_
    refine Seq.val (Runs.fieldB 0 rfl rfl Try.underlying35 rfl (by kernel_rfl)) rfl rfl rfl ?_
    refine Seq.val (Runs.loadB rfl rfl Try.underlying3 rfl k1 rfl) rfl rfl rfl ?_
    refine Seq.val (Runs.eqlI rfl rfl rfl) rfl rfl rfl ?_
    refine Seq.val (Runs.move rfl rfl) rfl rfl rfl ?_
    refine SeqC.start ?_
    refine SeqC.open rfl rfl rfl rfl rfl rfl rfl (fun hcx => Runs.fieldB 1 rfl rfl Try.underlying35 rfl (by kernel_rfl)) ?_
    refine SeqC.next rfl rfl rfl rfl rfl rfl rfl (fun hcx => Runs.loadB rfl rfl Try.underlying2 rfl k1 rfl) ?_
    refine SeqC.next rfl rfl rfl rfl rfl rfl rfl (fun hcx => Runs.gtr rfl rfl rfl) ?_
    refine SeqC.and rfl rfl rfl rfl rfl rfl rfl ?_
    refine Seq.val (Runs.assign rfl rfl) rfl rfl rfl ?_
    refine Seq.nil ?_
    refine Post.weak (F' := [(1, _), (35, _)]) ⟨rfl, rfl, trivial⟩ ?_
    refine Post.then_ ?_
    refine Cd.cond rfl (fun h => ?_) (fun h => ?_)
    · skip
      refine Cd.skip ?_
      refine Post.then_ ?_
      refine Cd.condT rfl h ?_
      refine Cd.seq ?_
      refine Cd.region ?_
      refine Seq.val (Runs.assign rfl rfl) rfl rfl rfl ?_
      refine Seq.nil ?_
      refine Post.weak (F' := [(1, _), (2, _), (35, _)]) ⟨rfl, rfl, rfl, trivial⟩ ?_
      refine Post.then_ ?_
      refine Cd.ret ?_
      refine Post.block_ret ?_
      refine Post.then_ret ?_
      refine Post.end1 rfl rfl (.inl rfl) ?_
      simp at h
      rw [hbf (by omega)]
      exact ⟨rfl, bel⟩
    · simp at h
      refine Cd.region ?_
      refine Seq.val (Runs.fieldB 0 rfl rfl Try.underlying35 rfl (by kernel_rfl)) rfl rfl rfl ?_
      refine Seq.val (Runs.loadB rfl rfl Try.underlying3 rfl k1 rfl) rfl rfl rfl ?_
      refine Seq.val (Runs.eqlI rfl rfl rfl) rfl rfl rfl ?_
      refine Seq.val (Runs.move rfl rfl) rfl rfl rfl ?_
      refine SeqC.start ?_
      refine SeqC.open rfl rfl rfl rfl rfl rfl rfl (fun hcx => Runs.fieldB 2 rfl rfl Try.underlying35 rfl (by kernel_rfl)) ?_
      refine SeqC.next rfl rfl rfl rfl rfl rfl rfl (fun hcx => Runs.loadB rfl rfl Try.underlying9 rfl k1 rfl) ?_
      refine SeqC.nextC rfl rfl rfl rfl rfl rfl rfl (fun hcx => Enters.func rfl rfl rfl (run_enter Try.func118 (by kernel_rfl) rfl)) (fun hcx => free_any nm _ HB1 hnl) ?_
      intro w2 hw2
      replace bel := bel.step hw2
      replace k1 := k1.step hw2
      refine SeqC.next rfl rfl rfl rfl rfl rfl rfl (fun hcx => Runs.not rfl rfl) ?_
      refine SeqC.and rfl rfl rfl rfl rfl rfl rfl ?_
      refine Seq.val (Runs.assign rfl rfl) rfl rfl rfl ?_
      refine Seq.nil ?_
      refine Post.weak (F' := [(1, _), (35, _)]) ⟨rfl, rfl, trivial⟩ ?_
      refine Post.then_ ?_
      refine Cd.cond rfl (fun h2 => ?_) (fun h2 => ?_)
      · skip
        refine Cd.seq ?_
        refine Cd.region ?_
        refine Seq.val (Runs.assign rfl rfl) rfl rfl rfl ?_
        refine Seq.nil ?_
        refine Post.weak (F' := [(1, _), (2, _), (35, _)]) ⟨rfl, rfl, rfl, trivial⟩ ?_
        refine Post.then_ ?_
        refine Cd.ret ?_
        refine Post.block_ret ?_
        refine Post.then_ret ?_
        refine Post.end1 rfl rfl (.inl rfl) ?_
        simp at h2
        rw [hbf (by rintro ⟨-, -, -, -, -, h7⟩; rw [h7 h2.1] at h2; cases h2.2)]
        exact ⟨rfl, bel⟩
      · have hh := headB_true a1 a2 a3 (by omega) (by omega) (fun h3 => by simp at h2; exact h2 h3)
        refine Cd.skip ?_
        refine Post.block_normal ?_
        refine Post.then_ ?_
        refine Cd.seq ?_
        refine Cd.region ?_
        refine Seq.val (Runs.fieldB 3 rfl rfl Try.underlying35 rfl (by kernel_rfl)) rfl rfl rfl ?_
        refine Seq.val (Runs.loadB rfl rfl Try.underlying25 rfl k1 rfl) rfl rfl rfl ?_
        refine Seq.call (Enters.func rfl rfl rfl (run_enter Try.func119 (by kernel_rfl) rfl)) rfl rfl rfl (hcl _ bel) ?_
        rintro en w9 ⟨rfl, hb9⟩
        refine ⟨_, rfl, ?_⟩
        replace bel := bel.step hb9
        replace k1 := k1.step hb9
        refine Seq.val (Runs.not rfl rfl) rfl rfl rfl ?_
        refine Seq.val (Runs.assign rfl rfl) rfl rfl rfl ?_
        refine Seq.nil ?_
        refine Post.weak (F' := [(1, _), (2, _), (35, _)]) ⟨rfl, rfl, rfl, trivial⟩ ?_
        refine Post.then_ ?_
        refine Cd.ret ?_
        refine Post.end1 rfl rfl (.inl rfl) ?_
        refine ⟨ret1 (bool_eq ?_), bel⟩
        rw [hbt, hh, Bool.true_and]
        induction e.args with
        | nil => rfl
        | cons x r ih => simp only [List.any_cons, List.all_cons, Bool.not_or, Bool.not_not, ih]
theorem rightExpr_any (e : Ex) (B : Nat) (v : Value) (w : World) (hd : e.depth ≤ 900) (hrep : Rep w B e v) (hB : B ≤ w.heap.size) : Calls Try.prog 41 #[v] w fun en w' => en = .returned (.bool (decide (e.nodes ≤ 200) && decide (e.depth ≤ 16) && builtB e)) ∧ Grow w w' := by
  have hs := fun W (hb : Below w.heap.size w W) => sizeExpr_any e.nodes e 0 B v W (Nat.le_refl _) (by omega) (hrep.below (hb.mono hB)) (Nat.le_trans hB hb.size)
  have hbt := fun W (hb : Below w.heap.size w W) => builtExpr_any e.nodes e B v W (Nat.le_refl _) (hrep.below (hb.mono hB)) (Nat.le_trans hB hb.size)
  have hc := szE_cnt e
  have hdn := e.depth_nodes
  have hsz := szE_Sz e
  have hres : (decide (e.nodes ≤ 200) && decide (e.depth ≤ 16)) = (decide ((szE e).1 ≤ 200) && decide ((szE e).2 ≤ 16)) := by
    obtain ⟨c1, c2⟩ := hc
    rw [Bool.eq_iff_iff]
    simp only [Bool.and_eq_true, decide_eq_true_eq]
    constructor
    · rintro ⟨h1, h2⟩
      rw [c2 (by omega)]
      omega
    · rintro ⟨h1, h2⟩
      have h3 : e.nodes ≤ 200 := by omega
      rw [c2 (by omega)] at h2
      omega
  rw [hres]
  obtain ⟨A, c, rfl, -⟩ := hrep.open
  have bel := Below.refl w.heap.size w
  generalize (szE e) = s at *
  refine Calls.start 10 Try.func41 rfl rfl rfl ?_
  refine Cd.seq ?_
  refine Cd.region ?_
  refine Seq.box rfl rfl rfl rfl rfl ?_
  intro g1 w1 n1
  have e1 := Nat.le_trans bel.size n1.ge
  replace bel := bel.step n1.below
  have k1 := n1.blk
  refine Seq.val (Runs.assign rfl rfl) rfl rfl rfl ?_
  refine Seq.nil ?_
  refine Post.weak (F' := [(0, _), (1, _), (2, _)]) ⟨rfl, rfl, rfl, trivial⟩ ?_
  refine Post.then_ ?_
  refine Cd.seq ?_
  refine Cd.region ?_
  refine Seq.val (Runs.loadW rfl rfl Try.underlying35 rfl k1 (m := 4) (by kernel_rfl) rfl) rfl rfl rfl ?_
  refine Seq.call (Enters.func rfl rfl rfl (run_enter Try.func75 (by kernel_rfl) rfl)) rfl rfl rfl (hs _ bel) ?_
  rintro en w5 ⟨rfl, hb5⟩
  refine ⟨_, rfl, ?_⟩
  replace bel := bel.step hb5
  replace k1 := k1.step hb5
  refine Seq.call (Enters.func rfl rfl rfl (run_enter Try.func68 (by kernel_rfl) rfl)) rfl rfl rfl (szSmall_any s.1 s.2 _) ?_
  rintro en w6 ⟨rfl, hb6⟩
  refine ⟨_, rfl, ?_⟩
  replace bel := bel.step hb6
  replace k1 := k1.step hb6
  refine Seq.val (Runs.move rfl rfl) rfl rfl rfl ?_
  refine SeqC.start ?_
  refine SeqC.open rfl rfl rfl rfl rfl rfl rfl (fun hcx => Runs.loadW rfl rfl Try.underlying35 rfl k1 (m := 4) (by kernel_rfl) rfl) ?_
  refine SeqC.nextC rfl rfl rfl rfl rfl rfl rfl (fun hcx => Enters.func rfl rfl rfl (run_enter Try.func76 (by kernel_rfl) rfl)) (fun hcx => hbt _ bel) ?_
  intro w2 hw2
  replace bel := bel.step hw2
  replace k1 := k1.step hw2
  refine SeqC.and rfl rfl rfl rfl rfl rfl rfl ?_
  refine Seq.val (Runs.assign rfl rfl) rfl rfl rfl ?_
  refine Seq.nil ?_
  refine Post.weak (F' := [(0, _), (1, _), (2, _)]) ⟨rfl, rfl, rfl, trivial⟩ ?_
  refine Post.then_ ?_
  refine Cd.ret ?_
  refine Post.end1 rfl rfl (.inl rfl) ?_
  exact ⟨ret1 (bool_eq (by cases (decide (s.1 ≤ 200) && decide (s.2 ≤ 16)) <;> rfl)), bel⟩
end Go.Proofs.Ytijaldpmpjapiaa
namespace Go.Proofs.Ytijaldpmpjapiaa
open Go.RowKit

def leapB (y : Int) : Bool := decide (y % 4 = 0) && (decide (y % 100 ≠ 0) || decide (y % 400 = 0))
def daysZ (y m : Int) : Int := if m = 2 then (if leapB y then 29 else 28) else if m = 4 ∨ m = 6 ∨ m = 9 ∨ m = 11 then 30 else if m = 1 ∨ m = 3 ∨ m = 5 ∨ m = 7 ∨ m = 8 ∨ m = 10 ∨ m = 12 then 31 else 0
theorem leap_any (y : Int) (w : World) (h0 : 0 ≤ y) : Calls Try.prog 179 #[.int .i64 y] w fun e w' => e = .returned (.bool (leapB y)) ∧ w = w' := by
  refine Calls.start 16 Try.func179 rfl rfl rfl ?_
  refine Cd.seq ?_
  refine Cd.region ?_
  refine Seq.val (Runs.assign rfl rfl) rfl rfl rfl ?_
  refine Seq.nil ?_
  refine Post.weak (F' := [(0, _), (2, _)]) ⟨rfl, rfl, trivial⟩ ?_
  refine Post.then_ ?_
  refine Cd.seq ?_
  refine Cd.region ?_
  refine Seq.val (Runs.move rfl rfl) rfl rfl rfl ?_
  refine Seq.val (Runs.remN rfl rfl rfl (by omega) (by omega)) rfl rfl rfl ?_
  refine Seq.val (Runs.eqlI rfl rfl rfl) rfl rfl rfl ?_
  refine Seq.val (Runs.move rfl rfl) rfl rfl rfl ?_
  refine SeqC.start ?_
  refine SeqC.open rfl rfl rfl rfl rfl rfl rfl (fun hcx => Runs.move rfl rfl) ?_
  refine SeqC.next rfl rfl rfl rfl rfl rfl rfl (fun hcx => Runs.remN rfl rfl rfl (by omega) (by omega)) ?_
  refine SeqC.next rfl rfl rfl rfl rfl rfl rfl (fun hcx => Runs.neqI rfl rfl rfl) ?_
  refine SeqC.next rfl rfl rfl rfl rfl rfl rfl (fun hcx => Runs.move rfl rfl) ?_
  refine SeqC.open rfl rfl rfl rfl rfl rfl rfl (fun hcx => Runs.move rfl rfl) ?_
  refine SeqC.next rfl rfl rfl rfl rfl rfl rfl (fun hcx => Runs.remN rfl rfl rfl (by omega) (by omega)) ?_
  refine SeqC.next rfl rfl rfl rfl rfl rfl rfl (fun hcx => Runs.eqlI rfl rfl rfl) ?_
  refine SeqC.orG rfl rfl rfl rfl rfl rfl rfl rfl rfl rfl rfl ?_
  refine SeqC.and rfl rfl rfl rfl rfl rfl rfl ?_
  refine Seq.val (Runs.assign rfl rfl) rfl rfl rfl ?_
  refine Seq.nil ?_
  refine Post.weak (F' := [(0, _), (2, _)]) ⟨rfl, rfl, trivial⟩ ?_
  refine Post.then_ ?_
  refine Cd.ret ?_
  refine Post.end1 rfl rfl (.inl rfl) ?_
  refine ⟨ret1 (bool_eq ?_), rfl⟩
  unfold leapB
  rw [Bool.eq_iff_iff]
theorem days_any (y m : Int) (w : World) (h0 : 0 ≤ y) : Calls Try.prog 172 #[.int .i64 y, .int .i64 m] w fun e w' => e = .returned (.int .i64 (daysZ y m)) ∧ w = w' := by
  refine Calls.start 23 Try.func172 rfl rfl rfl ?_
  refine Cd.seq ?_
  refine Cd.region ?_
  refine Seq.val (Runs.assign rfl rfl) rfl rfl rfl ?_
  refine Seq.nil ?_
  refine Post.weak (F' := [(0, _), (1, _), (4, _)]) ⟨rfl, rfl, rfl, trivial⟩ ?_
  refine Post.then_ ?_
  refine Cd.seq ?_
  refine Cd.seq ?_
  refine Cd.region ?_
  refine Seq.val (Runs.move rfl rfl) rfl rfl rfl ?_
  refine Seq.nil ?_
  refine Post.weak (F' := [(0, _), (1, _), (4, _), (5, _)]) ⟨rfl, rfl, rfl, rfl, trivial⟩ ?_
  refine Post.then_ ?_
  refine Cd.block ?_
  refine Cd.seq ?_
  refine Cd.region ?_
  refine Seq.val (Runs.eqlI rfl rfl rfl) rfl rfl rfl ?_
  refine Seq.val (Runs.assign rfl rfl) rfl rfl rfl ?_
  refine Seq.nil ?_
  refine Post.weak (F' := [(0, _), (1, _), (4, _), (5, _), (6, _)]) ⟨rfl, rfl, rfl, rfl, rfl, trivial⟩ ?_
  refine Post.then_ ?_
  refine Cd.condD rfl (fun h => ?_) (fun h => ?_)
  · subst h
    refine Cd.seq ?_
    refine Cd.seq ?_
    refine Cd.region ?_
    refine Seq.val (Runs.move rfl rfl) rfl rfl rfl ?_
    refine Seq.call (Enters.func rfl rfl rfl (run_enter Try.func179 (by kernel_rfl) rfl)) rfl rfl rfl (leap_any y _ h0) ?_
    rintro e w2 ⟨rfl, rfl⟩
    refine ⟨_, rfl, ?_⟩
    refine Seq.nil ?_
    refine Post.weak (F' := [(0, _), (1, _), (4, _), (5, _), (6, _), (9, _)]) ⟨rfl, rfl, rfl, rfl, rfl, rfl, trivial⟩ ?_
    refine Post.then_ ?_
    refine Cd.cond rfl (fun h2 => ?_) (fun h2 => ?_)
    · skip
      refine Cd.seq ?_
      refine Cd.region ?_
      refine Seq.val (Runs.assign rfl rfl) rfl rfl rfl ?_
      refine Seq.nil ?_
      refine Post.weak (F' := [(0, _), (1, _), (4, _), (5, _), (6, _), (9, _)]) ⟨rfl, rfl, rfl, rfl, rfl, rfl, trivial⟩ ?_
      refine Post.then_ ?_
      refine Cd.ret ?_
      refine Post.then_ret ?_
      refine Post.block_ret ?_
      refine Post.then_ret ?_
      refine Post.end1 rfl rfl (.inl rfl) ?_
      exact ⟨ret1 (int_eq (by unfold daysZ; rw [if_pos rfl, if_pos h2])), rfl⟩
    · skip
      refine Cd.skip ?_
      refine Post.then_ ?_
      refine Cd.seq ?_
      refine Cd.region ?_
      refine Seq.val (Runs.assign rfl rfl) rfl rfl rfl ?_
      refine Seq.nil ?_
      refine Post.weak (F' := [(0, _), (1, _), (4, _), (5, _), (6, _), (9, _)]) ⟨rfl, rfl, rfl, rfl, rfl, rfl, trivial⟩ ?_
      refine Post.then_ ?_
      refine Cd.ret ?_
      refine Post.block_ret ?_
      refine Post.then_ret ?_
      refine Post.end1 rfl rfl (.inl rfl) ?_
      exact ⟨ret1 (int_eq (by unfold daysZ; rw [if_pos rfl, h2]; rfl)), rfl⟩
  refine Cd.seq ?_
  refine Cd.seq ?_
  refine Cd.region ?_
  refine Seq.val (Runs.eqlI rfl rfl rfl) rfl rfl rfl ?_
  refine Seq.val (Runs.assign rfl rfl) rfl rfl rfl ?_
  refine Seq.nil ?_
  refine Post.weak (F' := [(0, _), (1, _), (4, _), (5, _), (6, _), (10, _)]) ⟨rfl, rfl, rfl, rfl, rfl, rfl, trivial⟩ ?_
  refine Post.then_ ?_
  refine Cd.condD rfl (fun a4 => ?_) (fun a4 => ?_)
  · skip
    refine Cd.skip ?_
    refine Post.then_ ?_
    refine Cd.condT rfl (decide_eq_true a4) ?_
    refine Cd.seq ?_
    refine Cd.region ?_
    refine Seq.val (Runs.assign rfl rfl) rfl rfl rfl ?_
    refine Seq.nil ?_
    refine Post.weak (F' := [(0, _), (1, _), (4, _), (5, _), (6, _), (10, _)]) ⟨rfl, rfl, rfl, rfl, rfl, rfl, trivial⟩ ?_
    refine Post.then_ ?_
    refine Cd.ret ?_
    refine Post.block_ret ?_
    refine Post.then_ret ?_
    refine Post.end1 rfl rfl (.inl rfl) ?_
    exact ⟨ret1 (int_eq (by unfold daysZ; rw [if_neg h, if_pos (by omega)])), rfl⟩
  refine Cd.seq ?_
  refine Cd.region ?_
  refine Seq.val (Runs.eqlI rfl rfl rfl) rfl rfl rfl ?_
  refine Seq.val (Runs.assign rfl rfl) rfl rfl rfl ?_
  refine Seq.nil ?_
  refine Post.weak (F' := [(0, _), (1, _), (4, _), (5, _), (6, _), (10, _)]) ⟨rfl, rfl, rfl, rfl, rfl, rfl, trivial⟩ ?_
  refine Post.then_ ?_
  refine Cd.condD rfl (fun a6 => ?_) (fun a6 => ?_)
  · skip
    refine Cd.skip ?_
    refine Post.then_ ?_
    refine Cd.condT rfl (decide_eq_true a6) ?_
    refine Cd.seq ?_
    refine Cd.region ?_
    refine Seq.val (Runs.assign rfl rfl) rfl rfl rfl ?_
    refine Seq.nil ?_
    refine Post.weak (F' := [(0, _), (1, _), (4, _), (5, _), (6, _), (10, _)]) ⟨rfl, rfl, rfl, rfl, rfl, rfl, trivial⟩ ?_
    refine Post.then_ ?_
    refine Cd.ret ?_
    refine Post.block_ret ?_
    refine Post.then_ret ?_
    refine Post.end1 rfl rfl (.inl rfl) ?_
    exact ⟨ret1 (int_eq (by unfold daysZ; rw [if_neg h, if_pos (by omega)])), rfl⟩
  refine Cd.seq ?_
  refine Cd.region ?_
  refine Seq.val (Runs.eqlI rfl rfl rfl) rfl rfl rfl ?_
  refine Seq.val (Runs.assign rfl rfl) rfl rfl rfl ?_
  refine Seq.nil ?_
  refine Post.weak (F' := [(0, _), (1, _), (4, _), (5, _), (6, _), (10, _)]) ⟨rfl, rfl, rfl, rfl, rfl, rfl, trivial⟩ ?_
  refine Post.then_ ?_
  refine Cd.condD rfl (fun a9 => ?_) (fun a9 => ?_)
  · skip
    refine Cd.skip ?_
    refine Post.then_ ?_
    refine Cd.condT rfl (decide_eq_true a9) ?_
    refine Cd.seq ?_
    refine Cd.region ?_
    refine Seq.val (Runs.assign rfl rfl) rfl rfl rfl ?_
    refine Seq.nil ?_
    refine Post.weak (F' := [(0, _), (1, _), (4, _), (5, _), (6, _), (10, _)]) ⟨rfl, rfl, rfl, rfl, rfl, rfl, trivial⟩ ?_
    refine Post.then_ ?_
    refine Cd.ret ?_
    refine Post.block_ret ?_
    refine Post.then_ret ?_
    refine Post.end1 rfl rfl (.inl rfl) ?_
    exact ⟨ret1 (int_eq (by unfold daysZ; rw [if_neg h, if_pos (by omega)])), rfl⟩
  refine Cd.region ?_
  refine Seq.val (Runs.eqlI rfl rfl rfl) rfl rfl rfl ?_
  refine Seq.val (Runs.assign rfl rfl) rfl rfl rfl ?_
  refine Seq.nil ?_
  refine Post.weak (F' := [(0, _), (1, _), (4, _), (5, _), (6, _), (10, _)]) ⟨rfl, rfl, rfl, rfl, rfl, rfl, trivial⟩ ?_
  refine Post.then_ ?_
  refine Cd.condD rfl (fun a11 => ?_) (fun a11 => ?_)
  · skip
    refine Cd.seq ?_
    refine Cd.region ?_
    refine Seq.val (Runs.assign rfl rfl) rfl rfl rfl ?_
    refine Seq.nil ?_
    refine Post.weak (F' := [(0, _), (1, _), (4, _), (5, _), (6, _), (10, _)]) ⟨rfl, rfl, rfl, rfl, rfl, rfl, trivial⟩ ?_
    refine Post.then_ ?_
    refine Cd.ret ?_
    refine Post.block_ret ?_
    refine Post.then_ret ?_
    refine Post.end1 rfl rfl (.inl rfl) ?_
    exact ⟨ret1 (int_eq (by unfold daysZ; rw [if_neg h, if_pos (by omega)])), rfl⟩
  refine Cd.seq ?_
  refine Cd.seq ?_
  refine Cd.region ?_
  refine Seq.val (Runs.eqlI rfl rfl rfl) rfl rfl rfl ?_
  refine Seq.val (Runs.assign rfl rfl) rfl rfl rfl ?_
  refine Seq.nil ?_
  refine Post.weak (F' := [(0, _), (1, _), (4, _), (5, _), (6, _), (10, _), (15, _)]) ⟨rfl, rfl, rfl, rfl, rfl, rfl, rfl, trivial⟩ ?_
  refine Post.then_ ?_
  refine Cd.condD rfl (fun a1 => ?_) (fun a1 => ?_)
  · skip
    refine Cd.skip ?_
    refine Post.then_ ?_
    refine Cd.condT rfl (decide_eq_true a1) ?_
    refine Cd.seq ?_
    refine Cd.region ?_
    refine Seq.val (Runs.assign rfl rfl) rfl rfl rfl ?_
    refine Seq.nil ?_
    refine Post.weak (F' := [(0, _), (1, _), (4, _), (5, _), (6, _), (10, _), (15, _)]) ⟨rfl, rfl, rfl, rfl, rfl, rfl, rfl, trivial⟩ ?_
    refine Post.then_ ?_
    refine Cd.ret ?_
    refine Post.block_ret ?_
    refine Post.then_ret ?_
    refine Post.end1 rfl rfl (.inl rfl) ?_
    exact ⟨ret1 (int_eq (by unfold daysZ; rw [if_neg h, if_neg (by omega), if_pos (by omega)])), rfl⟩
  refine Cd.seq ?_
  refine Cd.region ?_
  refine Seq.val (Runs.eqlI rfl rfl rfl) rfl rfl rfl ?_
  refine Seq.val (Runs.assign rfl rfl) rfl rfl rfl ?_
  refine Seq.nil ?_
  refine Post.weak (F' := [(0, _), (1, _), (4, _), (5, _), (6, _), (10, _), (15, _)]) ⟨rfl, rfl, rfl, rfl, rfl, rfl, rfl, trivial⟩ ?_
  refine Post.then_ ?_
  refine Cd.condD rfl (fun a3 => ?_) (fun a3 => ?_)
  · skip
    refine Cd.skip ?_
    refine Post.then_ ?_
    refine Cd.condT rfl (decide_eq_true a3) ?_
    refine Cd.seq ?_
    refine Cd.region ?_
    refine Seq.val (Runs.assign rfl rfl) rfl rfl rfl ?_
    refine Seq.nil ?_
    refine Post.weak (F' := [(0, _), (1, _), (4, _), (5, _), (6, _), (10, _), (15, _)]) ⟨rfl, rfl, rfl, rfl, rfl, rfl, rfl, trivial⟩ ?_
    refine Post.then_ ?_
    refine Cd.ret ?_
    refine Post.block_ret ?_
    refine Post.then_ret ?_
    refine Post.end1 rfl rfl (.inl rfl) ?_
    exact ⟨ret1 (int_eq (by unfold daysZ; rw [if_neg h, if_neg (by omega), if_pos (by omega)])), rfl⟩
  refine Cd.seq ?_
  refine Cd.region ?_
  refine Seq.val (Runs.eqlI rfl rfl rfl) rfl rfl rfl ?_
  refine Seq.val (Runs.assign rfl rfl) rfl rfl rfl ?_
  refine Seq.nil ?_
  refine Post.weak (F' := [(0, _), (1, _), (4, _), (5, _), (6, _), (10, _), (15, _)]) ⟨rfl, rfl, rfl, rfl, rfl, rfl, rfl, trivial⟩ ?_
  refine Post.then_ ?_
  refine Cd.condD rfl (fun a5 => ?_) (fun a5 => ?_)
  · skip
    refine Cd.skip ?_
    refine Post.then_ ?_
    refine Cd.condT rfl (decide_eq_true a5) ?_
    refine Cd.seq ?_
    refine Cd.region ?_
    refine Seq.val (Runs.assign rfl rfl) rfl rfl rfl ?_
    refine Seq.nil ?_
    refine Post.weak (F' := [(0, _), (1, _), (4, _), (5, _), (6, _), (10, _), (15, _)]) ⟨rfl, rfl, rfl, rfl, rfl, rfl, rfl, trivial⟩ ?_
    refine Post.then_ ?_
    refine Cd.ret ?_
    refine Post.block_ret ?_
    refine Post.then_ret ?_
    refine Post.end1 rfl rfl (.inl rfl) ?_
    exact ⟨ret1 (int_eq (by unfold daysZ; rw [if_neg h, if_neg (by omega), if_pos (by omega)])), rfl⟩
  refine Cd.seq ?_
  refine Cd.region ?_
  refine Seq.val (Runs.eqlI rfl rfl rfl) rfl rfl rfl ?_
  refine Seq.val (Runs.assign rfl rfl) rfl rfl rfl ?_
  refine Seq.nil ?_
  refine Post.weak (F' := [(0, _), (1, _), (4, _), (5, _), (6, _), (10, _), (15, _)]) ⟨rfl, rfl, rfl, rfl, rfl, rfl, rfl, trivial⟩ ?_
  refine Post.then_ ?_
  refine Cd.condD rfl (fun a7 => ?_) (fun a7 => ?_)
  · skip
    refine Cd.skip ?_
    refine Post.then_ ?_
    refine Cd.condT rfl (decide_eq_true a7) ?_
    refine Cd.seq ?_
    refine Cd.region ?_
    refine Seq.val (Runs.assign rfl rfl) rfl rfl rfl ?_
    refine Seq.nil ?_
    refine Post.weak (F' := [(0, _), (1, _), (4, _), (5, _), (6, _), (10, _), (15, _)]) ⟨rfl, rfl, rfl, rfl, rfl, rfl, rfl, trivial⟩ ?_
    refine Post.then_ ?_
    refine Cd.ret ?_
    refine Post.block_ret ?_
    refine Post.then_ret ?_
    refine Post.end1 rfl rfl (.inl rfl) ?_
    exact ⟨ret1 (int_eq (by unfold daysZ; rw [if_neg h, if_neg (by omega), if_pos (by omega)])), rfl⟩
  refine Cd.seq ?_
  refine Cd.region ?_
  refine Seq.val (Runs.eqlI rfl rfl rfl) rfl rfl rfl ?_
  refine Seq.val (Runs.assign rfl rfl) rfl rfl rfl ?_
  refine Seq.nil ?_
  refine Post.weak (F' := [(0, _), (1, _), (4, _), (5, _), (6, _), (10, _), (15, _)]) ⟨rfl, rfl, rfl, rfl, rfl, rfl, rfl, trivial⟩ ?_
  refine Post.then_ ?_
  refine Cd.condD rfl (fun a8 => ?_) (fun a8 => ?_)
  · skip
    refine Cd.skip ?_
    refine Post.then_ ?_
    refine Cd.condT rfl (decide_eq_true a8) ?_
    refine Cd.seq ?_
    refine Cd.region ?_
    refine Seq.val (Runs.assign rfl rfl) rfl rfl rfl ?_
    refine Seq.nil ?_
    refine Post.weak (F' := [(0, _), (1, _), (4, _), (5, _), (6, _), (10, _), (15, _)]) ⟨rfl, rfl, rfl, rfl, rfl, rfl, rfl, trivial⟩ ?_
    refine Post.then_ ?_
    refine Cd.ret ?_
    refine Post.block_ret ?_
    refine Post.then_ret ?_
    refine Post.end1 rfl rfl (.inl rfl) ?_
    exact ⟨ret1 (int_eq (by unfold daysZ; rw [if_neg h, if_neg (by omega), if_pos (by omega)])), rfl⟩
  refine Cd.seq ?_
  refine Cd.region ?_
  refine Seq.val (Runs.eqlI rfl rfl rfl) rfl rfl rfl ?_
  refine Seq.val (Runs.assign rfl rfl) rfl rfl rfl ?_
  refine Seq.nil ?_
  refine Post.weak (F' := [(0, _), (1, _), (4, _), (5, _), (6, _), (10, _), (15, _)]) ⟨rfl, rfl, rfl, rfl, rfl, rfl, rfl, trivial⟩ ?_
  refine Post.then_ ?_
  refine Cd.condD rfl (fun a10 => ?_) (fun a10 => ?_)
  · skip
    refine Cd.skip ?_
    refine Post.then_ ?_
    refine Cd.condT rfl (decide_eq_true a10) ?_
    refine Cd.seq ?_
    refine Cd.region ?_
    refine Seq.val (Runs.assign rfl rfl) rfl rfl rfl ?_
    refine Seq.nil ?_
    refine Post.weak (F' := [(0, _), (1, _), (4, _), (5, _), (6, _), (10, _), (15, _)]) ⟨rfl, rfl, rfl, rfl, rfl, rfl, rfl, trivial⟩ ?_
    refine Post.then_ ?_
    refine Cd.ret ?_
    refine Post.block_ret ?_
    refine Post.then_ret ?_
    refine Post.end1 rfl rfl (.inl rfl) ?_
    exact ⟨ret1 (int_eq (by unfold daysZ; rw [if_neg h, if_neg (by omega), if_pos (by omega)])), rfl⟩
  refine Cd.region ?_
  refine Seq.val (Runs.eqlI rfl rfl rfl) rfl rfl rfl ?_
  refine Seq.val (Runs.assign rfl rfl) rfl rfl rfl ?_
  refine Seq.nil ?_
  refine Post.weak (F' := [(0, _), (1, _), (4, _), (5, _), (6, _), (10, _), (15, _)]) ⟨rfl, rfl, rfl, rfl, rfl, rfl, rfl, trivial⟩ ?_
  refine Post.then_ ?_
  refine Cd.condD rfl (fun a12 => ?_) (fun a12 => ?_)
  · skip
    refine Cd.seq ?_
    refine Cd.region ?_
    refine Seq.val (Runs.assign rfl rfl) rfl rfl rfl ?_
    refine Seq.nil ?_
    refine Post.weak (F' := [(0, _), (1, _), (4, _), (5, _), (6, _), (10, _), (15, _)]) ⟨rfl, rfl, rfl, rfl, rfl, rfl, rfl, trivial⟩ ?_
    refine Post.then_ ?_
    refine Cd.ret ?_
    refine Post.block_ret ?_
    refine Post.then_ret ?_
    refine Post.end1 rfl rfl (.inl rfl) ?_
    exact ⟨ret1 (int_eq (by unfold daysZ; rw [if_neg h, if_neg (by omega), if_pos (by omega)])), rfl⟩
  refine Cd.skip ?_
  refine Post.block_normal ?_
  refine Post.then_ ?_
  refine Cd.seq ?_
  refine Cd.region ?_
  refine Seq.val (Runs.assign rfl rfl) rfl rfl rfl ?_
  refine Seq.nil ?_
  refine Post.weak (F' := [(0, _), (1, _), (4, _), (5, _), (6, _), (10, _), (15, _)]) ⟨rfl, rfl, rfl, rfl, rfl, rfl, rfl, trivial⟩ ?_
  refine Post.then_ ?_
  refine Cd.ret ?_
  refine Post.end1 rfl rfl (.inl rfl) ?_
  exact ⟨ret1 (int_eq (by unfold daysZ; rw [if_neg h, if_neg (by omega), if_neg (by omega)])), rfl⟩
def ofOk (y m d : Int) : Bool := decide (1970 ≤ y) && decide (y ≤ 9999) && decide (1 ≤ d) && decide (d ≤ daysZ y m)
def ofY (y m : Int) : Int := if m < 3 then y - 1 else y
def ofM (m : Int) : Int := if m < 3 then m + 9 else m - 3
def ofZ (y m d : Int) : Int := ofY y m / 400 * 146097 + (ofY y m % 400 * 365 + ofY y m % 400 / 4 - ofY y m % 400 / 100 + ((153 * ofM m + 2) / 5 + d - 1)) - 719468
theorem daysZ_m {y m : Int} (h : 0 < daysZ y m) : 1 ≤ m ∧ m ≤ 12 ∧ daysZ y m ≤ 31 := by
  unfold daysZ at *
  split
  · split <;> omega
  · split
    · omega
    · split
      · omega
      · rename_i h1 h2 h3
        rw [if_neg h1, if_neg h2, if_neg h3] at h
        omega
theorem dateOf_any (y m d : Int) (w : World) (hy : I64 y) (hm : -100 ≤ m ∧ m ≤ 100) (hd : I64 d) :
    Calls Try.prog 160 #[.int .i64 y, .int .i64 m, .int .i64 d] w fun e w' => e = .returned (.tuple #[.int .i64 (if ofOk y m d then ofZ y m d else 0), .bool (ofOk y m d)]) ∧ Grow w w' := by
  have bel := Below.refl w.heap.size w
  unfold I64 at hy hd
  by_cases hy2 : y < 1970 ∨ 9999 < y
  · have hf : ofOk y m d = false := by
      unfold ofOk
      rw [Bool.eq_false_iff]
      simp
      omega
    rw [hf]
    refine Calls.start 64 Try.func160 rfl rfl rfl ?_
    refine Cd.seq ?_
    refine Cd.region ?_
    refine Seq.val (Runs.assign rfl rfl) rfl rfl rfl ?_
    refine Seq.val (Runs.assign rfl rfl) rfl rfl rfl ?_
    refine Seq.nil ?_
    refine Post.weak (F' := [(0, _), (1, _), (2, _), (6, _), (7, _)]) ⟨rfl, rfl, rfl, rfl, rfl, trivial⟩ ?_
    refine Post.then_ ?_
    refine Cd.seq ?_
    refine Cd.seq ?_
    refine Cd.region ?_
    refine Seq.val (Runs.move rfl rfl) rfl rfl rfl ?_
    refine Seq.val (Runs.lss rfl rfl rfl) rfl rfl rfl ?_
    refine Seq.val (Runs.move rfl rfl) rfl rfl rfl ?_
    refine SeqC.start ?_
    refine SeqC.open rfl rfl rfl rfl rfl rfl rfl (fun hcx => Runs.move rfl rfl) ?_
    refine SeqC.next rfl rfl rfl rfl rfl rfl rfl (fun hcx => Runs.gtr rfl rfl rfl) ?_
    refine SeqC.or rfl rfl rfl rfl rfl rfl rfl ?_
    refine Seq.val (Runs.move rfl rfl) rfl rfl rfl ?_
    refine SeqC.start ?_
    refine SeqC.open rfl rfl rfl rfl rfl rfl rfl (fun hcx => Runs.move rfl rfl) ?_
    refine SeqC.next rfl rfl rfl rfl rfl rfl rfl (fun hcx => Runs.lss rfl rfl rfl) ?_
    refine SeqC.or rfl rfl rfl rfl rfl rfl rfl ?_
    refine Seq.val (Runs.move rfl rfl) rfl rfl rfl ?_
    refine SeqC.start ?_
    refine SeqC.open rfl rfl rfl rfl rfl rfl rfl (fun hcx => Runs.move rfl rfl) ?_
    refine SeqC.next rfl rfl rfl rfl rfl rfl rfl (fun hcx => Runs.move rfl rfl) ?_
    refine SeqC.next rfl rfl rfl rfl rfl rfl rfl (fun hcx => Runs.move rfl rfl) ?_
    refine SeqC.nextC rfl rfl rfl rfl rfl rfl rfl (fun hcx => Enters.func rfl rfl rfl (run_enter Try.func172 (by kernel_rfl) rfl)) (fun hcx => (by exfalso; simp [topX] at hcx; omega : Calls _ _ _ _ (fun e w' => e = .returned (.int .i64 0) ∧ Grow _ w'))) ?_
    intro w1 hw1
    replace bel := bel.step hw1
    refine SeqC.next rfl rfl rfl rfl rfl rfl rfl (fun hcx => Runs.gtr rfl rfl rfl) ?_
    refine SeqC.or rfl rfl rfl rfl rfl rfl rfl ?_
    refine Seq.nil ?_
    refine Post.weak (F' := [(0, _), (1, _), (2, _), (6, _), (7, _), (28, _)]) ⟨rfl, rfl, rfl, rfl, rfl, rfl, trivial⟩ ?_
    refine Post.then_ ?_
    refine Cd.condT rfl (by simp; omega) ?_
    refine Cd.seq ?_
    refine Cd.region ?_
    refine Seq.val (Runs.assign rfl rfl) rfl rfl rfl ?_
    refine Seq.val (Runs.assign rfl rfl) rfl rfl rfl ?_
    refine Seq.nil ?_
    refine Post.weak (F' := [(0, _), (1, _), (2, _), (6, _), (7, _), (28, _)]) ⟨rfl, rfl, rfl, rfl, rfl, rfl, trivial⟩ ?_
    refine Post.then_ ?_
    refine Cd.ret ?_
    refine Post.then_ret ?_
    refine Post.end2 rfl rfl rfl (.inl rfl) ?_
    exact ⟨rfl, bel⟩
  have hdc := fun w => (days_any y m w (by omega)).mono (fun e w' (h : e = .returned (.int .i64 (daysZ y m)) ∧ w = w') => (⟨h.1, by rw [← h.2]; exact Grow.refl _⟩ : e = .returned (.int .i64 (daysZ y m)) ∧ Grow w w'))
  refine Calls.start 64 Try.func160 rfl rfl rfl ?_
  refine Cd.seq ?_
  refine Cd.region ?_
  refine Seq.val (Runs.assign rfl rfl) rfl rfl rfl ?_
  refine Seq.val (Runs.assign rfl rfl) rfl rfl rfl ?_
  refine Seq.nil ?_
  refine Post.weak (F' := [(0, _), (1, _), (2, _), (6, _), (7, _)]) ⟨rfl, rfl, rfl, rfl, rfl, trivial⟩ ?_
  refine Post.then_ ?_
  refine Cd.seq ?_
  refine Cd.seq ?_
  refine Cd.region ?_
  refine Seq.val (Runs.move rfl rfl) rfl rfl rfl ?_
  refine Seq.val (Runs.lss rfl rfl rfl) rfl rfl rfl ?_
  refine Seq.val (Runs.move rfl rfl) rfl rfl rfl ?_
  refine SeqC.start ?_
  refine SeqC.open rfl rfl rfl rfl rfl rfl rfl (fun hcx => Runs.move rfl rfl) ?_
  refine SeqC.next rfl rfl rfl rfl rfl rfl rfl (fun hcx => Runs.gtr rfl rfl rfl) ?_
  refine SeqC.or rfl rfl rfl rfl rfl rfl rfl ?_
  refine Seq.val (Runs.move rfl rfl) rfl rfl rfl ?_
  refine SeqC.start ?_
  refine SeqC.open rfl rfl rfl rfl rfl rfl rfl (fun hcx => Runs.move rfl rfl) ?_
  refine SeqC.next rfl rfl rfl rfl rfl rfl rfl (fun hcx => Runs.lss rfl rfl rfl) ?_
  refine SeqC.or rfl rfl rfl rfl rfl rfl rfl ?_
  refine Seq.val (Runs.move rfl rfl) rfl rfl rfl ?_
  refine SeqC.start ?_
  refine SeqC.open rfl rfl rfl rfl rfl rfl rfl (fun hcx => Runs.move rfl rfl) ?_
  refine SeqC.next rfl rfl rfl rfl rfl rfl rfl (fun hcx => Runs.move rfl rfl) ?_
  refine SeqC.next rfl rfl rfl rfl rfl rfl rfl (fun hcx => Runs.move rfl rfl) ?_
  refine SeqC.nextC rfl rfl rfl rfl rfl rfl rfl (fun hcx => Enters.func rfl rfl rfl (run_enter Try.func172 (by kernel_rfl) rfl)) (fun hcx => hdc _) ?_
  intro w1 hw1
  replace bel := bel.step hw1
  refine SeqC.next rfl rfl rfl rfl rfl rfl rfl (fun hcx => Runs.gtr rfl rfl rfl) ?_
  refine SeqC.or rfl rfl rfl rfl rfl rfl rfl ?_
  refine Seq.nil ?_
  refine Post.weak (F' := [(0, _), (1, _), (2, _), (6, _), (7, _), (28, _)]) ⟨rfl, rfl, rfl, rfl, rfl, rfl, trivial⟩ ?_
  refine Post.then_ ?_
  refine Cd.cond rfl (fun h => ?_) (fun h => ?_)
  · have hf : ofOk y m d = false := by
      unfold ofOk
      rw [Bool.eq_false_iff]
      simp at h ⊢
      omega
    rw [hf]
    refine Cd.seq ?_
    refine Cd.region ?_
    refine Seq.val (Runs.assign rfl rfl) rfl rfl rfl ?_
    refine Seq.val (Runs.assign rfl rfl) rfl rfl rfl ?_
    refine Seq.nil ?_
    refine Post.weak (F' := [(0, _), (1, _), (2, _), (6, _), (7, _), (28, _)]) ⟨rfl, rfl, rfl, rfl, rfl, rfl, trivial⟩ ?_
    refine Post.then_ ?_
    refine Cd.ret ?_
    refine Post.then_ret ?_
    refine Post.end2 rfl rfl rfl (.inl rfl) ?_
    exact ⟨rfl, bel⟩
  have hd2 : 1 ≤ d ∧ d ≤ daysZ y m := by
    simp at h
    omega
  have hok : ofOk y m d = true := by
    unfold ofOk
    simp
    omega
  rw [hok, if_pos rfl]
  obtain ⟨m1, m2, m3⟩ := daysZ_m (y := y) (m := m) (by omega)
  have hz : ofZ y m d = ofY y m / 400 * 146097 + (ofY y m % 400 * 365 + ofY y m % 400 / 4 - ofY y m % 400 / 100 + ((153 * ofM m + 2) / 5 + d - 1)) - 719468 := rfl
  have hY : 1969 ≤ ofY y m ∧ ofY y m ≤ 9999 := by unfold ofY; split <;> omega
  have hM : 0 ≤ ofM m ∧ ofM m ≤ 11 := by unfold ofM; split <;> omega
  have eY : ofY y m = if m < 3 then y - 1 else y := rfl
  have eM : ofM m = if m < 3 then m + 9 else m - 3 := rfl
  generalize ofY y m = Y at *
  generalize ofM m = M at *
  refine Cd.skip ?_
  refine Post.then_ ?_
  refine Cd.seq ?_
  refine Cd.region ?_
  refine Seq.val (Runs.move rfl rfl) rfl rfl rfl ?_
  refine Seq.val (Runs.move rfl rfl) rfl rfl rfl ?_
  refine Seq.val (Runs.subI rfl rfl rfl (by omega) (by omega)) rfl rfl rfl ?_
  refine Seq.val (Runs.assign rfl rfl) rfl rfl rfl ?_
  refine Seq.val (Runs.assign rfl rfl) rfl rfl rfl ?_
  refine Seq.nil ?_
  refine Post.weak (F' := [(0, _), (1, _), (2, _), (6, _), (7, _), (8, _), (9, _), (28, _)]) ⟨rfl, rfl, rfl, rfl, rfl, rfl, rfl, rfl, trivial⟩ ?_
  refine Post.then_ ?_
  refine Cd.seqJ (σ := Unit) (fun _ => [(2, .int .i64 d), (8, .int .i64 Y), (9, .int .i64 M)]) (fun _ wr => Below w.heap.size w wr) ?_ ?_
  · skip
    refine Cd.seq ?_
    refine Cd.region ?_
    refine Seq.val (Runs.move rfl rfl) rfl rfl rfl ?_
    refine Seq.val (Runs.lss rfl rfl rfl) rfl rfl rfl ?_
    refine Seq.nil ?_
    refine Post.weak (F' := [(0, _), (1, _), (2, _), (6, _), (7, _), (8, _), (9, _), (28, _), (33, _)]) ⟨rfl, rfl, rfl, rfl, rfl, rfl, rfl, rfl, rfl, trivial⟩ ?_
    refine Post.then_ ?_
    refine Cd.condD rfl (fun hc => ?_) (fun hc => ?_)
    · skip
      refine Cd.region ?_
      refine Seq.val (Runs.move rfl rfl) rfl rfl rfl ?_
      refine Seq.val (Runs.subI rfl rfl rfl (by omega) (by omega)) rfl rfl rfl ?_
      refine Seq.val (Runs.move rfl rfl) rfl rfl rfl ?_
      refine Seq.val (Runs.addI rfl rfl rfl (by omega) (by omega)) rfl rfl rfl ?_
      refine Seq.val (Runs.assign rfl rfl) rfl rfl rfl ?_
      refine Seq.val (Runs.assign rfl rfl) rfl rfl rfl ?_
      refine Seq.nil ?_
      refine Post.weak (F' := [(0, _), (1, _), (2, _), (6, _), (7, _), (8, _), (9, _), (28, _), (33, _)]) ⟨rfl, rfl, rfl, rfl, rfl, rfl, rfl, rfl, rfl, trivial⟩ ?_
      exact Post.join () ⟨rfl, congrArg (fun z => some (Value.int .i64 z)) (by rw [eY, if_pos (by omega)]), congrArg (fun z => some (Value.int .i64 z)) (by rw [eM, if_pos (by omega)]; omega), trivial⟩ bel
    · skip
      refine Cd.skip ?_
      exact Post.join () ⟨rfl, congrArg (fun z => some (Value.int .i64 z)) (by rw [eY, if_neg (by omega)]), congrArg (fun z => some (Value.int .i64 z)) (by rw [eM, if_neg (by omega)]), trivial⟩ bel
  clear bel
  rintro ⟨⟩ wr bel
  refine Cd.seq ?_
  refine Cd.region ?_
  refine Seq.val (Runs.move rfl rfl) rfl rfl rfl ?_
  refine Seq.val (Runs.mulI rfl rfl rfl (by omega) (by omega)) rfl rfl rfl ?_
  refine Seq.val (Runs.addI rfl rfl rfl (by omega) (by omega)) rfl rfl rfl ?_
  refine Seq.val (Runs.quoI rfl rfl rfl (by omega) (by omega) (by omega)) rfl rfl rfl ?_
  refine Seq.val (Runs.move rfl rfl) rfl rfl rfl ?_
  refine Seq.val (Runs.addI rfl rfl rfl (by omega) (by omega)) rfl rfl rfl ?_
  refine Seq.val (Runs.subI rfl rfl rfl (by omega) (by omega)) rfl rfl rfl ?_
  refine Seq.val (Runs.assign rfl rfl) rfl rfl rfl ?_
  refine Seq.nil ?_
  refine Post.weak (F' := [(2, _), (8, _), (9, _), (10, _)]) ⟨rfl, rfl, rfl, rfl, trivial⟩ ?_
  refine Post.then_ ?_
  refine Cd.seq ?_
  refine Cd.region ?_
  refine Seq.val (Runs.move rfl rfl) rfl rfl rfl ?_
  refine Seq.val (Runs.remN rfl rfl rfl (by omega) (by omega)) rfl rfl rfl ?_
  refine Seq.val (Runs.mulI rfl rfl rfl (by omega) (by omega)) rfl rfl rfl ?_
  refine Seq.val (Runs.move rfl rfl) rfl rfl rfl ?_
  refine Seq.val (Runs.remN rfl rfl rfl (by omega) (by omega)) rfl rfl rfl ?_
  refine Seq.val (Runs.quoI rfl rfl rfl (by omega) (by omega) (by omega)) rfl rfl rfl ?_
  refine Seq.val (Runs.addI rfl rfl rfl (by omega) (by omega)) rfl rfl rfl ?_
  refine Seq.val (Runs.move rfl rfl) rfl rfl rfl ?_
  refine Seq.val (Runs.remN rfl rfl rfl (by omega) (by omega)) rfl rfl rfl ?_
  refine Seq.val (Runs.quoI rfl rfl rfl (by omega) (by omega) (by omega)) rfl rfl rfl ?_
  refine Seq.val (Runs.subI rfl rfl rfl (by omega) (by omega)) rfl rfl rfl ?_
  refine Seq.val (Runs.move rfl rfl) rfl rfl rfl ?_
  refine Seq.val (Runs.addI rfl rfl rfl (by omega) (by omega)) rfl rfl rfl ?_
  refine Seq.val (Runs.assign rfl rfl) rfl rfl rfl ?_
  refine Seq.nil ?_
  refine Post.weak (F' := [(2, _), (8, _), (9, _), (10, _), (11, _)]) ⟨rfl, rfl, rfl, rfl, rfl, trivial⟩ ?_
  refine Post.then_ ?_
  refine Cd.seq ?_
  refine Cd.region ?_
  refine Seq.val (Runs.move rfl rfl) rfl rfl rfl ?_
  refine Seq.val (Runs.quoI rfl rfl rfl (by omega) (by omega) (by omega)) rfl rfl rfl ?_
  refine Seq.val (Runs.mulI rfl rfl rfl (by omega) (by omega)) rfl rfl rfl ?_
  refine Seq.val (Runs.move rfl rfl) rfl rfl rfl ?_
  refine Seq.val (Runs.addI rfl rfl rfl (by omega) (by omega)) rfl rfl rfl ?_
  refine Seq.val (Runs.subI rfl rfl rfl (by omega) (by omega)) rfl rfl rfl ?_
  refine Seq.val (Runs.assign rfl rfl) rfl rfl rfl ?_
  refine Seq.val (Runs.assign rfl rfl) rfl rfl rfl ?_
  refine Seq.nil ?_
  refine Post.weak (F' := [(2, _), (6, _), (7, _), (8, _), (9, _), (10, _), (11, _)]) ⟨rfl, rfl, rfl, rfl, rfl, rfl, rfl, trivial⟩ ?_
  refine Post.then_ ?_
  refine Cd.ret ?_
  refine Post.end2 rfl rfl rfl (.inl rfl) ?_
  exact ⟨by rw [hz], bel⟩
end Go.Proofs.Ytijaldpmpjapiaa
namespace Go.Proofs.Ytijaldpmpjapiaa
open Go.RowKit

/-- The number of digits; -1: they are none. -/
def numZ (l : List Nat) : Int := if l.all digB then (valD l : Int) else -1
theorem numZ_bd (l : List Nat) (h : l.length ≤ 4) : -1 ≤ numZ l ∧ numZ l ≤ 9999 := by
  unfold numZ
  split
  · rename_i ha
    have := valD_lt l (fun c hc => by
      have := List.all_eq_true.1 ha c hc
      unfold digB at this
      simp at this
      exact this)
    have h2 : 10 ^ l.length ≤ 10 ^ 4 := Nat.pow_le_pow_right (by omega) h
    omega
  · omega
theorem numZ_bd2 (l : List Nat) (h : l.length ≤ 2) : -1 ≤ numZ l ∧ numZ l ≤ 99 := by
  unfold numZ
  split
  · rename_i ha
    have := valD_lt l (fun c hc => by
      have := List.all_eq_true.1 ha c hc
      unfold digB at this
      simp at this
      exact this)
    have h2 : 10 ^ l.length ≤ 10 ^ 2 := Nat.pow_le_pow_right (by omega) h
    omega
  · omega
theorem datePart_any (g : Nat) (l : List Nat) (i j : Nat) (w : World) (hl : ∀ x ∈ l, x < 256) (hg : Blk w g 9 #[.string (strOf l)]) (hi : i ≤ j) (hj : j ≤ l.length) (h4 : j ≤ i + 4) :
    Calls Try.prog 159 #[.int .i64 (i : Int), .int .i64 (j : Int), .pointer (some ⟨g, 0, none⟩)] w fun e w' => e = .returned (.int .i64 (numZ ((l.take j).drop i))) ∧ Grow w w' := by
  have bel := Below.refl w.heap.size w
  have hll : l.length ≤ 9223372036854775807 ∨ 9223372036854775807 < l.length := by omega
  have hM : ∀ x ∈ (l.take j).drop i, x < 256 := drop_lt (take_lt hl j) i
  have hMl : ((l.take j).drop i).length ≤ 4 := by rw [List.length_drop, List.length_take]; omega
  have kg := hg
  refine Calls.start 33 Try.func159 rfl rfl rfl ?_
  refine Cd.seq ?_
  refine Cd.region ?_
  refine Seq.val (Runs.assign rfl rfl) rfl rfl rfl ?_
  refine Seq.nil ?_
  refine Post.weak (F' := [(0, _), (1, _), (2, _), (5, _)]) ⟨rfl, rfl, rfl, rfl, trivial⟩ ?_
  refine Post.then_ ?_
  refine Cd.seq ?_
  refine Cd.region ?_
  refine Seq.val (Runs.assign rfl rfl) rfl rfl rfl ?_
  refine Seq.nil ?_
  refine Post.weak (F' := [(0, _), (1, _), (2, _), (5, _), (6, _)]) ⟨rfl, rfl, rfl, rfl, rfl, trivial⟩ ?_
  refine Post.then_ ?_
  refine Cd.seq ?_
  refine Cd.seq ?_
  refine Cd.region ?_
  refine Seq.val (Runs.loadB rfl rfl Try.underlying9 rfl kg rfl) rfl rfl rfl ?_
  refine Seq.val (Runs.move rfl rfl) rfl rfl rfl ?_
  refine Seq.val (Runs.move rfl rfl) rfl rfl rfl ?_
  refine Seq.val (Runs.sliceAtL (i := i) (j := j) rfl rfl rfl rfl Try.underlying9 rfl rfl hi hj) rfl rfl rfl ?_
  generalize (l.take j).drop i = M at *
  refine Seq.convSB rfl rfl Try.underlying9 Try.underlying108 Try.underlying5 hM rfl rfl rfl ?_
  intro g13 c13 w13 hc13 n13
  replace bel := bel.step n13.below
  have hrd13 := n13.reads
  have hB13 := n13.lt
  refine Seq.val (Runs.len rfl rfl Try.underlying108) rfl rfl rfl ?_
  refine Seq.val (Runs.move rfl rfl) rfl rfl rfl ?_
  refine Seq.nil ?_
  refine Post.weak (F' := [(0, _), (1, _), (2, _), (5, _), (6, _), (13, _), (14, _), (15, _)]) ⟨rfl, rfl, rfl, rfl, rfl, rfl, rfl, rfl, trivial⟩ ?_
  refine Post.then_ ?_
  refine Cd.block ?_
  refine Cd.loop (σ := Nat) (fun k => [(6, .int .i64 ((valD (M.take k) : Nat) : Int)), (13, .slice (some ⟨g13, 0, none⟩) M.length c13), (14, .int .i64 (M.length : Int)), (15, .int .i64 (k : Int))])
    (fun k wr => k ≤ M.length ∧ (∀ c ∈ M.take k, isDg c) ∧ Below w.heap.size w wr ∧ Below w13.heap.size w13 wr) (fun k => M.length - k) 0 ⟨by omega, by simp, bel, Below.refl _ _⟩ ⟨rfl, rfl, rfl, rfl, trivial⟩ ?_
  clear bel
  rintro k wr ⟨hk, hdg, bel, bl13⟩
  have hvl := valD_lt (M.take k) hdg
  rw [List.length_take, Nat.min_eq_left hk] at hvl
  have h10 : 10 ^ k ≤ 10 ^ 4 := Nat.pow_le_pow_right (by omega) (by omega)
  refine Cd.seq ?_
  refine Cd.region ?_
  refine Seq.val (Runs.lss rfl rfl rfl) rfl rfl rfl ?_
  refine Seq.nil ?_
  refine Post.weak (F' := [(6, _), (13, _), (14, _), (15, _), (16, _)]) ⟨rfl, rfl, rfl, rfl, rfl, trivial⟩ ?_
  refine Post.then_ ?_
  refine Cd.seq ?_
  refine Cd.condD rfl (fun hc => ?_) (fun hc => ?_)
  · obtain ⟨c, hcc⟩ : ∃ c, M[k]? = some c := ⟨_, List.getElem?_eq_getElem (show k < M.length by omega)⟩
    have hc256 := hM c (List.mem_of_getElem? hcc)
    have hcell : wr.cell? (Addr.add ⟨g13, 0, none⟩ k) = some (.int .u8 (c : Int)) := by
      obtain ⟨ad, e, hb, hcs⟩ := hrd13.2 (by omega)
      injection e with e
      subst e
      rw [bl13.cell (by rw [block_of_add]; exact hB13)]
      exact hcs k _ (by rw [get_Bt, hcc]; rfl)
    have htk : M.take (k + 1) = M.take k ++ [c] := by rw [List.take_add_one, hcc]; rfl
    have hvs : valD (M.take (k + 1)) = 10 * valD (M.take k) + (c - 48) := by rw [htk, valD_snoc]
    generalize hV : valD (M.take k) = V at *
    refine Cd.skip ?_
    refine Post.then_ ?_
    refine Cd.seq ?_
    refine Cd.block ?_
    refine Cd.seq ?_
    refine Cd.region ?_
    refine Seq.val (Runs.index1 rfl rfl rfl Try.underlying108 (by kernel_rfl) (j := k) rfl (by omega)) rfl rfl rfl ?_
    refine Seq.val (Runs.load1 rfl rfl Try.underlying5 rfl hcell) rfl rfl rfl ?_
    refine Seq.val (Runs.assign rfl rfl) rfl rfl rfl ?_
    refine Seq.nil ?_
    refine Post.weak (F' := [(6, _), (8, _), (13, _), (14, _), (15, _), (16, _)]) ⟨rfl, rfl, rfl, rfl, rfl, rfl, trivial⟩ ?_
    refine Post.then_ ?_
    refine Cd.seq ?_
    refine Cd.seq ?_
    refine Cd.region ?_
    refine Seq.val (Runs.move rfl rfl) rfl rfl rfl ?_
    refine Seq.val (Runs.lss rfl rfl rfl) rfl rfl rfl ?_
    refine Seq.val (Runs.move rfl rfl) rfl rfl rfl ?_
    refine SeqC.start ?_
    refine SeqC.open rfl rfl rfl rfl rfl rfl rfl (fun hcx => Runs.move rfl rfl) ?_
    refine SeqC.next rfl rfl rfl rfl rfl rfl rfl (fun hcx => Runs.gtr rfl rfl rfl) ?_
    refine SeqC.or rfl rfl rfl rfl rfl rfl rfl ?_
    refine Seq.nil ?_
    refine Post.weak (F' := [(6, _), (8, _), (13, _), (14, _), (15, _), (16, _), (24, _)]) ⟨rfl, rfl, rfl, rfl, rfl, rfl, rfl, trivial⟩ ?_
    refine Post.then_ ?_
    refine Cd.cond rfl (fun h => ?_) (fun h => ?_)
    · have hno : ¬ M.all digB = true := by
        intro ha
        have := List.all_eq_true.1 ha c (List.mem_of_getElem? hcc)
        unfold digB at this
        simp at this h
        omega
      refine Cd.seq ?_
      refine Cd.region ?_
      refine Seq.val (Runs.assign rfl rfl) rfl rfl rfl ?_
      refine Seq.nil ?_
      refine Post.weak (F' := [(5, _), (6, _), (8, _), (13, _), (14, _), (15, _), (16, _), (24, _)]) ⟨rfl, rfl, rfl, rfl, rfl, rfl, rfl, rfl, trivial⟩ ?_
      refine Post.then_ ?_
      refine Cd.ret ?_
      refine Post.then_ret ?_
      refine Post.block_ret ?_
      refine Post.then_ret ?_
      refine Post.round_ret ?_
      refine Post.block_ret ?_
      refine Post.then_ret ?_
      refine Post.end1 rfl rfl (.inl rfl) ?_
      exact ⟨ret1 (int_eq (by unfold numZ; rw [if_neg hno])), bel⟩
    · have hcd : isDg c := by unfold isDg; simp at h; omega
      have hcd2 := hcd
      unfold isDg at hcd2
      clear h
      refine Cd.skip ?_
      refine Post.then_ ?_
      refine Cd.region ?_
      refine Seq.val (Runs.move rfl rfl) rfl rfl rfl ?_
      refine Seq.val (Runs.mulI rfl rfl rfl (by omega) (by omega)) rfl rfl rfl ?_
      refine Seq.val (Runs.move rfl rfl) rfl rfl rfl ?_
      refine Seq.val (Runs.subW rfl rfl rfl (wrapB (by omega) (by omega))) rfl rfl rfl ?_
      refine Seq.val (Runs.convI rfl rfl Try.underlying5 Try.underlying3 (wrapI (by omega) (by omega))) rfl rfl rfl ?_
      refine Seq.val (Runs.addI rfl rfl rfl (by omega) (by omega)) rfl rfl rfl ?_
      refine Seq.val (Runs.assign rfl rfl) rfl rfl rfl ?_
      refine Seq.nil ?_
      refine Post.weak (F' := [(6, _), (8, _), (13, _), (14, _), (15, _), (16, _), (24, _)]) ⟨rfl, rfl, rfl, rfl, rfl, rfl, rfl, trivial⟩ ?_
      refine Post.block_normal ?_
      refine Post.then_ ?_
      refine Cd.region ?_
      refine Seq.val (Runs.addI rfl rfl rfl (by omega) (by omega)) rfl rfl rfl ?_
      refine Seq.val (Runs.move rfl rfl) rfl rfl rfl ?_
      refine Seq.nil ?_
      refine Post.weak (F' := [(6, _), (8, _), (13, _), (14, _), (15, _), (16, _), (24, _)]) ⟨rfl, rfl, rfl, rfl, rfl, rfl, rfl, trivial⟩ ?_
      refine Post.round (k + 1) ⟨congrArg (fun x => some (Value.int .i64 x)) (show (10 * (V : Int) + ((c : Int) - 48)) = ((valD (M.take (k + 1)) : Nat) : Int) by omega), rfl, rfl, rfl, trivial⟩ ⟨by omega, ?_, bel, bl13⟩ (by omega)
      intro x hx
      rw [htk] at hx
      rcases List.mem_append.1 hx with h | h
      · exact hdg x h
      · simp at h; subst h; exact hcd
  · obtain rfl : k = M.length := by omega
    rw [List.take_of_length_le (Nat.le_refl _)] at hdg ⊢
    have hall : M.all digB = true := by
      rw [List.all_eq_true]
      intro c hc
      have := hdg c hc
      unfold isDg at this
      unfold digB
      simp
      omega
    refine Cd.exit ?_
    refine Post.then_exit ?_
    refine Post.round_exit ?_
    refine Post.block_exit ?_
    refine Post.then_ ?_
    refine Cd.seq ?_
    refine Cd.region ?_
    refine Seq.val (Runs.move rfl rfl) rfl rfl rfl ?_
    refine Seq.val (Runs.assign rfl rfl) rfl rfl rfl ?_
    refine Seq.nil ?_
    refine Post.weak (F' := [(5, _), (6, _), (13, _), (14, _), (15, _), (16, _)]) ⟨rfl, rfl, rfl, rfl, rfl, rfl, trivial⟩ ?_
    refine Post.then_ ?_
    refine Cd.ret ?_
    refine Post.end1 rfl rfl (.inl rfl) ?_
    exact ⟨ret1 (int_eq (by unfold numZ; rw [if_pos hall])), bel⟩
theorem eg_datePart : ∀ args w, (callFunc 159 args).run Try.prog w = .ok (.enter 159 args) w := fun args w => run_enter Try.func159 (by kernel_rfl) rfl args w
/-- The day of a text. -/
def dateOk (l : List Nat) : Bool := decide (l.length = 10) && decide (l[4]? = some 45) && decide (l[7]? = some 45) && ofOk (numZ ((l.take 4).drop 0)) (numZ ((l.take 7).drop 5)) (numZ ((l.take 10).drop 8))
def dateZ (l : List Nat) : Int := if dateOk l then ofZ (numZ ((l.take 4).drop 0)) (numZ ((l.take 7).drop 5)) (numZ ((l.take 10).drop 8)) else 0
theorem dateParse_any (l : List Nat) (w : World) (hl : ∀ x ∈ l, x < 256) (hlen : l.length ≤ 9223372036854775807) :
    Calls Try.prog 136 #[.string (strOf l)] w fun e w' => e = .returned (.tuple #[.int .i64 (dateZ l), .bool (dateOk l)]) ∧ Grow w w' := by
  have bel := Below.refl w.heap.size w
  by_cases h10 : l.length = 10
  · obtain ⟨c4, h4⟩ : ∃ c, l[4]? = some c := ⟨_, List.getElem?_eq_getElem (by omega)⟩
    obtain ⟨c7, h7⟩ : ∃ c, l[7]? = some c := ⟨_, List.getElem?_eq_getElem (by omega)⟩
    have hc4 := hl c4 (List.mem_of_getElem? h4)
    have hc7 := hl c7 (List.mem_of_getElem? h7)
    refine Calls.start 28 Try.func136 rfl rfl rfl ?_
    refine Cd.seq ?_
    refine Cd.region ?_
    refine Seq.box rfl rfl rfl rfl rfl ?_
    intro g1 w1 n1
    have e1 := Nat.le_trans bel.size n1.ge
    replace bel := bel.step n1.below
    have k1 := n1.blk
    refine Seq.val (Runs.assign rfl rfl) rfl rfl rfl ?_
    refine Seq.val (Runs.assign rfl rfl) rfl rfl rfl ?_
    refine Seq.nil ?_
    refine Post.weak (F' := [(0, _), (1, _), (2, _), (3, _)]) ⟨rfl, rfl, rfl, rfl, trivial⟩ ?_
    refine Post.then_ ?_
    refine Cd.seq ?_
    refine Cd.seq ?_
    refine Cd.region ?_
    refine Seq.val (Runs.loadB rfl rfl Try.underlying9 rfl k1 rfl) rfl rfl rfl ?_
    refine Seq.val (Runs.lenL rfl rfl Try.underlying9) rfl rfl rfl ?_
    refine Seq.val (Runs.neqI rfl rfl rfl) rfl rfl rfl ?_
    refine Seq.val (Runs.move rfl rfl) rfl rfl rfl ?_
    refine SeqC.start ?_
    refine SeqC.open rfl rfl rfl rfl rfl rfl rfl (fun hcx => Runs.loadB rfl rfl Try.underlying9 rfl k1 rfl) ?_
    refine SeqC.next rfl rfl rfl rfl rfl rfl rfl (fun hcx => Runs.indexL (l := l) (j := 4) rfl rfl rfl Try.underlying9 rfl h4 hc4) ?_
    refine SeqC.next rfl rfl rfl rfl rfl rfl rfl (fun hcx => Runs.neqI rfl rfl rfl) ?_
    refine SeqC.or rfl rfl rfl rfl rfl rfl rfl ?_
    refine Seq.val (Runs.move rfl rfl) rfl rfl rfl ?_
    refine SeqC.start ?_
    refine SeqC.open rfl rfl rfl rfl rfl rfl rfl (fun hcx => Runs.loadB rfl rfl Try.underlying9 rfl k1 rfl) ?_
    refine SeqC.next rfl rfl rfl rfl rfl rfl rfl (fun hcx => Runs.indexL (l := l) (j := 7) rfl rfl rfl Try.underlying9 rfl h7 hc7) ?_
    refine SeqC.next rfl rfl rfl rfl rfl rfl rfl (fun hcx => Runs.neqI rfl rfl rfl) ?_
    refine SeqC.or rfl rfl rfl rfl rfl rfl rfl ?_
    refine Seq.nil ?_
    refine Post.weak (F' := [(0, _), (1, _), (2, _), (3, _), (17, _)]) ⟨rfl, rfl, rfl, rfl, rfl, trivial⟩ ?_
    refine Post.then_ ?_
    refine Cd.cond rfl (fun h => ?_) (fun h => ?_)
    · have hf : dateOk l = false := by
        rw [Bool.eq_false_iff]
        intro h2
        unfold dateOk at h2
        rw [h4, h7] at h2
        simp at h2 h
        omega
      have hz : dateZ l = 0 := by unfold dateZ; rw [hf]; rfl
      rw [hf, hz]
      refine Cd.seq ?_
      refine Cd.region ?_
      refine Seq.val (Runs.assign rfl rfl) rfl rfl rfl ?_
      refine Seq.val (Runs.assign rfl rfl) rfl rfl rfl ?_
      refine Seq.nil ?_
      refine Post.weak (F' := [(0, _), (1, _), (2, _), (3, _), (17, _)]) ⟨rfl, rfl, rfl, rfl, rfl, trivial⟩ ?_
      refine Post.then_ ?_
      refine Cd.ret ?_
      refine Post.then_ret ?_
      refine Post.end2 rfl rfl rfl (.inl rfl) ?_
      exact ⟨rfl, bel⟩
    · have h45 : c4 = 45 ∧ c7 = 45 := by simp at h; omega
      have hok : dateOk l = ofOk (numZ ((l.take 4).drop 0)) (numZ ((l.take 7).drop 5)) (numZ ((l.take 10).drop 8)) := by
        unfold dateOk
        rw [h4, h7, h45.1, h45.2, h10]
        simp
      unfold dateZ
      rw [hok]
      have d1 := numZ_bd ((l.take 4).drop 0) (by rw [List.length_drop, List.length_take]; omega)
      have d2 := numZ_bd2 ((l.take 7).drop 5) (by rw [List.length_drop, List.length_take]; omega)
      have d3 := numZ_bd2 ((l.take 10).drop 8) (by rw [List.length_drop, List.length_take]; omega)
      have p1 := fun w (k1 : Blk w g1 9 #[.string (strOf l)]) => datePart_any g1 l 0 4 w hl k1 (by omega) (by omega) (by omega)
      have p2 := fun w (k1 : Blk w g1 9 #[.string (strOf l)]) => datePart_any g1 l 5 7 w hl k1 (by omega) (by omega) (by omega)
      have p3 := fun w (k1 : Blk w g1 9 #[.string (strOf l)]) => datePart_any g1 l 8 10 w hl k1 (by omega) (by omega) (by omega)
      generalize numZ ((l.take 4).drop 0) = y at *
      generalize numZ ((l.take 7).drop 5) = m at *
      generalize numZ ((l.take 10).drop 8) = d at *
      refine Cd.skip ?_
      refine Post.then_ ?_
      refine Cd.seq ?_
      refine Cd.region ?_
      refine Seq.val (Runs.makeFunc rfl (show evL _ _ = some [] from rfl) (show evL _ _ = some [.pointer (some ⟨g1, 0, none⟩)] from rfl) rfl) rfl rfl rfl ?_
      refine Seq.val (Runs.assign rfl rfl) rfl rfl rfl ?_
      refine Seq.nil ?_
      refine Post.weak (F' := [(0, _), (1, _), (2, _), (3, _), (4, _), (17, _)]) ⟨rfl, rfl, rfl, rfl, rfl, rfl, trivial⟩ ?_
      refine Post.then_ ?_
      refine Cd.seq ?_
      refine Cd.region ?_
      refine Seq.val (Runs.move rfl rfl) rfl rfl rfl ?_
      refine Seq.call (Enters.value (first := []) (cap := [.pointer (some ⟨g1, 0, none⟩)]) rfl rfl rfl eg_datePart) rfl rfl rfl (p1 _ k1) ?_
      rintro e w5 ⟨rfl, hb5⟩
      refine ⟨_, rfl, ?_⟩
      replace bel := bel.step hb5
      replace k1 := k1.step hb5
      refine Seq.val (Runs.move rfl rfl) rfl rfl rfl ?_
      refine Seq.call (Enters.value (first := []) (cap := [.pointer (some ⟨g1, 0, none⟩)]) rfl rfl rfl eg_datePart) rfl rfl rfl (p2 _ k1) ?_
      rintro e w6 ⟨rfl, hb6⟩
      refine ⟨_, rfl, ?_⟩
      replace bel := bel.step hb6
      replace k1 := k1.step hb6
      refine Seq.val (Runs.move rfl rfl) rfl rfl rfl ?_
      refine Seq.call (Enters.value (first := []) (cap := [.pointer (some ⟨g1, 0, none⟩)]) rfl rfl rfl eg_datePart) rfl rfl rfl (p3 _ k1) ?_
      rintro e w7 ⟨rfl, hb7⟩
      refine ⟨_, rfl, ?_⟩
      replace bel := bel.step hb7
      replace k1 := k1.step hb7
      refine Seq.call (Enters.func rfl rfl rfl (run_enter Try.func160 (by kernel_rfl) rfl)) rfl rfl rfl (dateOf_any y m d _ (by unfold I64; omega) (by omega) (by unfold I64; omega)) ?_
      rintro e w8 ⟨rfl, hb8⟩
      refine ⟨_, rfl, ?_⟩
      replace bel := bel.step hb8
      replace k1 := k1.step hb8
      refine Seq.val (Runs.extract rfl rfl rfl) rfl rfl rfl ?_
      refine Seq.val (Runs.extract rfl rfl rfl) rfl rfl rfl ?_
      refine Seq.val (Runs.assign rfl rfl) rfl rfl rfl ?_
      refine Seq.val (Runs.assign rfl rfl) rfl rfl rfl ?_
      refine Seq.nil ?_
      refine Post.weak (F' := [(0, _), (1, _), (2, _), (3, _), (4, _), (17, _)]) ⟨rfl, rfl, rfl, rfl, rfl, rfl, trivial⟩ ?_
      refine Post.then_ ?_
      refine Cd.ret ?_
      refine Post.end2 rfl rfl rfl (.inl rfl) ?_
      exact ⟨rfl, bel⟩
  · have hf : dateOk l = false := by
      rw [Bool.eq_false_iff]
      intro h2
      unfold dateOk at h2
      simp [h10] at h2
    have hz : dateZ l = 0 := by unfold dateZ; rw [hf]; rfl
    rw [hf, hz]
    refine Calls.start 28 Try.func136 rfl rfl rfl ?_
    refine Cd.seq ?_
    refine Cd.region ?_
    refine Seq.box rfl rfl rfl rfl rfl ?_
    intro g1 w1 n1
    have e1 := Nat.le_trans bel.size n1.ge
    replace bel := bel.step n1.below
    have k1 := n1.blk
    refine Seq.val (Runs.assign rfl rfl) rfl rfl rfl ?_
    refine Seq.val (Runs.assign rfl rfl) rfl rfl rfl ?_
    refine Seq.nil ?_
    refine Post.weak (F' := [(0, _), (1, _), (2, _), (3, _)]) ⟨rfl, rfl, rfl, rfl, trivial⟩ ?_
    refine Post.then_ ?_
    refine Cd.seq ?_
    refine Cd.seq ?_
    refine Cd.region ?_
    refine Seq.val (Runs.loadB rfl rfl Try.underlying9 rfl k1 rfl) rfl rfl rfl ?_
    refine Seq.val (Runs.lenL rfl rfl Try.underlying9) rfl rfl rfl ?_
    refine Seq.val (Runs.neqI rfl rfl rfl) rfl rfl rfl ?_
    refine Seq.val (Runs.move rfl rfl) rfl rfl rfl ?_
    refine SeqC.start ?_
    refine SeqC.open rfl rfl rfl rfl rfl rfl rfl (fun hcx => Runs.loadB rfl rfl Try.underlying9 rfl k1 rfl) ?_
    refine SeqC.next rfl rfl rfl rfl rfl rfl rfl (fun hcx => (by exfalso; first | (simp [topX] at hcx; omega) | simp [topX] at hcx : Runs _ _ _ _ (.int .u8 0) _)) ?_
    refine SeqC.next rfl rfl rfl rfl rfl rfl rfl (fun hcx => Runs.neqI rfl rfl rfl) ?_
    refine SeqC.or rfl rfl rfl rfl rfl rfl rfl ?_
    refine Seq.val (Runs.move rfl rfl) rfl rfl rfl ?_
    refine SeqC.start ?_
    refine SeqC.open rfl rfl rfl rfl rfl rfl rfl (fun hcx => Runs.loadB rfl rfl Try.underlying9 rfl k1 rfl) ?_
    refine SeqC.next rfl rfl rfl rfl rfl rfl rfl (fun hcx => (by exfalso; first | (simp [topX] at hcx; omega) | simp [topX] at hcx : Runs _ _ _ _ (.int .u8 0) _)) ?_
    refine SeqC.next rfl rfl rfl rfl rfl rfl rfl (fun hcx => Runs.neqI rfl rfl rfl) ?_
    refine SeqC.or rfl rfl rfl rfl rfl rfl rfl ?_
    refine Seq.nil ?_
    refine Post.weak (F' := [(0, _), (1, _), (2, _), (3, _), (17, _)]) ⟨rfl, rfl, rfl, rfl, rfl, trivial⟩ ?_
    refine Post.then_ ?_
    refine Cd.condT rfl (by first | (simp; omega) | simp) ?_
    refine Cd.seq ?_
    refine Cd.region ?_
    refine Seq.val (Runs.assign rfl rfl) rfl rfl rfl ?_
    refine Seq.val (Runs.assign rfl rfl) rfl rfl rfl ?_
    refine Seq.nil ?_
    refine Post.weak (F' := [(0, _), (1, _), (2, _), (3, _), (17, _)]) ⟨rfl, rfl, rfl, rfl, rfl, trivial⟩ ?_
    refine Post.then_ ?_
    refine Cd.ret ?_
    refine Post.then_ret ?_
    refine Post.end2 rfl rfl rfl (.inl rfl) ?_
    exact ⟨rfl, bel⟩
end Go.Proofs.Ytijaldpmpjapiaa
namespace Go.Proofs.Ytijaldpmpjapiaa
open Go.RowKit

theorem zero_string : zeroIs Try.prog 9 = some (some (.string { data := #[] })) := by kernel_rfl
theorem zero_lex_Word : zeroIs Try.prog 50 = some (some (.agg #[.int .i64 0, .string { data := #[] }, .int .i64 0, .int .i64 0])) := by kernel_rfl
theorem run_build_Word3 (a c : Int) (s : ByteArray) (w : World) : (Instr.build 50 #[(0, .int .i64 a), (1, .string s), (2, .int .i64 c)]).run Try.prog w = .ok (.agg #[.int .i64 a, .string s, .int .i64 c, .int .i64 0]) w := by
  have hu := Try.underlying50
  go_simp
theorem run_build_Word2 (a : Int) (s : ByteArray) (w : World) : (Instr.build 50 #[(0, .int .i64 a), (1, .string s)]).run Try.prog w = .ok (.agg #[.int .i64 a, .string s, .int .i64 0, .int .i64 0]) w := by
  have hu := Try.underlying50
  go_simp
theorem run_build_Word0 (w : World) : (Instr.build 50 #[]).run Try.prog w = .ok (.agg #[.int .i64 0, .string { data := #[] }, .int .i64 0, .int .i64 0]) w := by
  have hu := Try.underlying50
  go_simp
theorem hasPrefixL_lite (l p : List Nat) (w : World) (hl : ∀ x ∈ l, x < 256) (hp : ∀ x ∈ p, x < 256) :
    Calls Try.prog 138 #[.string (strOf l), .string (strOf p)] w fun e w' => e = .returned (.bool (decide (l.take p.length = p))) ∧ w = w' := by
  have h2 : ∀ x ∈ l.take p.length, x < 256 := fun x hx => hl x (List.mem_of_mem_take hx)
  refine Calls.start 18 Try.func138 rfl rfl rfl ?_
  refine Cd.seq ?_
  refine Cd.region ?_
  refine Seq.val (Runs.assign rfl rfl) rfl rfl rfl ?_
  refine Seq.nil ?_
  refine Post.weak (F' := [(0, _), (1, _), (4, _)]) ⟨rfl, rfl, rfl, trivial⟩ ?_
  refine Post.then_ ?_
  refine Cd.seq ?_
  refine Cd.region ?_
  refine Seq.val (Runs.move rfl rfl) rfl rfl rfl ?_
  refine Seq.val (Runs.lenL rfl rfl Try.underlying9) rfl rfl rfl ?_
  refine Seq.val (Runs.move rfl rfl) rfl rfl rfl ?_
  refine Seq.val (Runs.lenL rfl rfl Try.underlying9) rfl rfl rfl ?_
  refine Seq.val (Runs.geq rfl rfl rfl) rfl rfl rfl ?_
  refine Seq.val (Runs.move rfl rfl) rfl rfl rfl ?_
  refine SeqC.start ?_
  refine SeqC.open rfl rfl rfl rfl rfl rfl rfl (fun hcx => Runs.move rfl rfl) ?_
  refine SeqC.next rfl rfl rfl rfl rfl rfl rfl (fun hcx => Runs.move rfl rfl) ?_
  refine SeqC.next rfl rfl rfl rfl rfl rfl rfl (fun hcx => Runs.lenL rfl rfl Try.underlying9) ?_
  refine SeqC.next rfl rfl rfl rfl rfl rfl rfl (fun hcx => Runs.sliceTo (j := p.length) rfl rfl rfl Try.underlying9 rfl (by simp [topX] at hcx; omega)) ?_
  refine SeqC.next rfl rfl rfl rfl rfl rfl rfl (fun hcx => Runs.move rfl rfl) ?_
  refine SeqC.next rfl rfl rfl rfl rfl rfl rfl (fun hcx => Runs.eqlL (a := l.take p.length) (b := p) rfl rfl rfl h2 hp) ?_
  refine SeqC.and rfl rfl rfl rfl rfl rfl rfl ?_
  refine Seq.val (Runs.assign rfl rfl) rfl rfl rfl ?_
  refine Seq.nil ?_
  refine Post.weak (F' := [(0, _), (1, _), (4, _)]) ⟨rfl, rfl, rfl, trivial⟩ ?_
  refine Post.then_ ?_
  refine Cd.ret ?_
  refine Post.end1 rfl rfl (.inl rfl) ?_
  refine ⟨ret1 (bool_eq ?_), rfl⟩
  rw [Bool.eq_iff_iff]
  simp
  intro h
  have := congrArg List.length h
  rw [List.length_take] at this
  omega
theorem hasPrefixL_any (l p : List Nat) (w : World) (hl : ∀ x ∈ l, x < 256) (hp : ∀ x ∈ p, x < 256) :
    Calls Try.prog 93 #[.string (strOf l), .string (strOf p)] w fun e w' => e = .returned (.bool (decide (l.take p.length = p))) ∧ w = w' := by
  refine Calls.start 8 Try.func93 rfl rfl rfl ?_
  refine Cd.seq ?_
  refine Cd.region ?_
  refine Seq.val (Runs.assign rfl rfl) rfl rfl rfl ?_
  refine Seq.nil ?_
  refine Post.weak (F' := [(0, _), (1, _), (4, _)]) ⟨rfl, rfl, rfl, trivial⟩ ?_
  refine Post.then_ ?_
  refine Cd.seq ?_
  refine Cd.region ?_
  refine Seq.val (Runs.move rfl rfl) rfl rfl rfl ?_
  refine Seq.val (Runs.move rfl rfl) rfl rfl rfl ?_
  refine Seq.call (Enters.func rfl rfl rfl (run_enter Try.func138 (by kernel_rfl) rfl)) rfl rfl rfl (hasPrefixL_lite l p _ hl hp) ?_
  rintro e w2 ⟨rfl, rfl⟩
  refine ⟨_, rfl, ?_⟩
  refine Seq.val (Runs.assign rfl rfl) rfl rfl rfl ?_
  refine Seq.nil ?_
  refine Post.weak (F' := [(0, _), (1, _), (4, _)]) ⟨rfl, rfl, rfl, trivial⟩ ?_
  refine Post.then_ ?_
  refine Cd.ret ?_
  refine Post.end1 rfl rfl (.inl rfl) ?_
  exact ⟨rfl, rfl⟩
def signsL : List (List Nat) := [[60, 61], [33, 61], [62, 61], [40], [41], [44], [43], [45], [42], [47], [60], [61], [62], [38], [124], [33]]
def strV (L : List (List Nat)) : List Value := L.map fun s => .string (strOf s)
theorem signs_any (w : World) : Calls Try.prog 92 #[] w fun e w' => ∃ g, e = .returned (.slice (some ⟨g, 0, none⟩) 16 16) ∧ Blk w' g 9 (strV signsL).toArray ∧ Grow w w' := by
  have bel := Below.refl w.heap.size w
  refine Calls.start 2 Try.func92 rfl rfl rfl ?_
  refine Cd.seq ?_
  refine Cd.region ?_
  refine Seq.val (Runs.assign rfl rfl) rfl rfl rfl ?_
  refine Seq.nil ?_
  refine Post.weak (F' := [(0, _)]) ⟨rfl, trivial⟩ ?_
  refine Post.then_ ?_
  refine Cd.seq ?_
  refine Cd.region ?_
  refine Seq.slice (vs := [_, _, _, _, _, _, _, _, _, _, _, _, _, _, _, _]) (s := 1) rfl rfl rfl Try.underlying85 (by kernel_rfl) (zero_string) (by omega) (by omega) ⟨rfl, rfl, rfl, rfl, rfl, rfl, rfl, rfl, rfl, rfl, rfl, rfl, rfl, rfl, rfl, rfl, trivial⟩ rfl rfl rfl ?_
  intro g1 w1 n1
  have e1 := Nat.le_trans bel.size n1.ge
  replace bel := bel.step n1.below
  have k1 := n1.blk
  refine Seq.val (Runs.assign rfl rfl) rfl rfl rfl ?_
  refine Seq.nil ?_
  refine Post.weak (F' := [(0, _)]) ⟨rfl, trivial⟩ ?_
  refine Post.then_ ?_
  refine Cd.ret ?_
  refine Post.end1 rfl rfl (.inl rfl) ?_
  exact ⟨_, rfl, k1, bel⟩
def signW (l : List Nat) : Option (List Nat) := signsL.find? fun s => decide (l.take s.length = s)
/-- The number of a text that begins with a digit. -/
def amt0 (t : List Nat) : Option Int := if t.all digB = true ∧ (1 < t.length → t[0]? ≠ some 48) ∧ valD t ≤ 9223372036854775807 then some (valD t : Int) else none
theorem all_dg {t : List Nat} : t.all digB = true ↔ ∀ c ∈ t, isDg c := by
  rw [List.all_eq_true]
  constructor
  · intro h c hc
    have := h c hc
    unfold digB at this
    simp at this
    exact this
  · intro h c hc
    have := h c hc
    unfold isDg at this
    unfold digB
    simp
    omega
theorem amt0_of {t : List Nat} {v : Int} {ok : Bool} (h : AmtA t 0 v ok) (c : Nat) (r : List Nat) (ht : t = c :: r) (hc : digB c = true) : amt0 t = if ok then some v else none := by
  have hc2 : 48 ≤ c ∧ c ≤ 57 := by unfold digB at hc; simp at hc; exact hc
  cases ok with
  | true =>
    obtain ⟨-, -, hv, F, B, hf⟩ := h.1 rfl
    have h0 := hf.len
    have hB : B = [] := List.eq_nil_of_length_eq_zero (by simpa using h0)
    subst hB
    have he := hf.eq
    unfold FormL at he
    rw [if_neg (show ¬ 0 < (0 : Int).toNat by decide), List.append_nil] at he
    have hneg : ¬ v < 0 := by
      intro hn
      rw [if_pos hn, ht] at he
      injection he with he
      omega
    rw [if_neg hneg] at he
    have he2 : t = F := he
    subst he2
    have hval := hf.val
    rw [List.append_nil] at hval
    have hcond : t.all digB = true ∧ (1 < t.length → t[0]? ≠ some 48) ∧ valD t ≤ 9223372036854775807 := ⟨all_dg.2 hf.f, hf.lead, by unfold I64 at hv; omega⟩
    unfold amt0
    rw [if_pos hcond, if_pos rfl, hval]
    congr 1
    omega
  | false =>
    obtain ⟨-, hno⟩ := h.2 rfl
    unfold amt0
    rw [if_neg]
    · rfl
    · rintro ⟨h1, h2, h3⟩
      refine hno (by omega) (by omega) (valD t : Int) (by unfold I64; omega) t [] ⟨all_dg.1 h1, by simp, by simp, by rw [ht]; simp, h2, by rw [List.append_nil]; omega, ?_⟩
      unfold FormL
      rw [if_neg (show ¬ (valD t : Int) < 0 by omega), if_neg (show ¬ 0 < (0 : Int).toNat by decide), List.append_nil]
      rfl
def dayOk (l : List Nat) : Bool := decide (10 ≤ l.length) && !(decide (10 < l.length) && partB (l.getD 10 0)) && dateOk (l.take 10)
theorem day_any (l : List Nat) (w : World) (hl : ∀ x ∈ l, x < 256) (hlen : l.length ≤ 9223372036854775807) :
    Calls Try.prog 90 #[.string (strOf l)] w fun e w' => ∃ a b c, e = .returned (.tuple #[.agg #[.int .i64 a, .string (strOf b), .int .i64 c, .int .i64 0], .bool (dayOk l)]) ∧ (dayOk l = true → a = 2 ∧ b = l.take 10 ∧ c = dateZ (l.take 10)) ∧ Grow w w' := by
  have bel := Below.refl w.heap.size w
  have h0 : 10 < l.length → l[10]? = some (l.getD 10 0) := by
    intro h
    rw [List.getD_eq_getElem?_getD, List.getElem?_eq_getElem h]; rfl
  have h1 : l.getD 10 0 < 256 := by
    rw [List.getD_eq_getElem?_getD]
    cases hh : l[10]? with
    | none => simp
    | some c => exact hl c (List.mem_of_getElem? hh)
  unfold dayOk
  generalize l.getD 10 0 = c0 at *
  refine Calls.start 31 Try.func90 rfl rfl rfl ?_
  refine Cd.seq ?_
  refine Cd.region ?_
  refine Seq.alloc rfl (run_zero zero_lex_Word) rfl rfl rfl ?_
  intro g2 w1 n2
  have e2 := Nat.le_trans bel.size n2.ge
  replace bel := bel.step n2.below
  have k2 := n2.blk
  refine Seq.val (Runs.assign rfl rfl) rfl rfl rfl ?_
  refine Seq.nil ?_
  refine Post.weak (F' := [(0, _), (2, _), (3, _)]) ⟨rfl, rfl, rfl, trivial⟩ ?_
  refine Post.then_ ?_
  refine Cd.seq ?_
  refine Cd.seq ?_
  refine Cd.region ?_
  refine Seq.val (Runs.move rfl rfl) rfl rfl rfl ?_
  refine Seq.val (Runs.lenL rfl rfl Try.underlying9) rfl rfl rfl ?_
  refine Seq.val (Runs.lss rfl rfl rfl) rfl rfl rfl ?_
  refine Seq.val (Runs.move rfl rfl) rfl rfl rfl ?_
  refine SeqC.start ?_
  refine SeqC.open rfl rfl rfl rfl rfl rfl rfl (fun hcx => Runs.move rfl rfl) ?_
  refine SeqC.next rfl rfl rfl rfl rfl rfl rfl (fun hcx => Runs.lenL rfl rfl Try.underlying9) ?_
  refine SeqC.next rfl rfl rfl rfl rfl rfl rfl (fun hcx => Runs.gtr rfl rfl rfl) ?_
  refine SeqC.next rfl rfl rfl rfl rfl rfl rfl (fun hcx => Runs.move rfl rfl) ?_
  refine SeqC.open rfl rfl rfl rfl rfl rfl rfl (fun hcx => Runs.move rfl rfl) ?_
  refine SeqC.next rfl rfl rfl rfl rfl rfl rfl (fun hcx => Runs.indexL (l := l) (j := 10) (c := c0) rfl rfl rfl Try.underlying9 rfl (h0 (by simp [topX] at hcx; omega)) h1) ?_
  refine SeqC.nextC rfl rfl rfl rfl rfl rfl rfl (fun hcx => Enters.func rfl rfl rfl (run_enter Try.func57 (by kernel_rfl) rfl)) (fun hcx => part_any _ _) ?_
  intro w2 hw2
  replace bel := bel.step hw2
  replace k2 := k2.step hw2
  refine SeqC.andG rfl rfl rfl rfl rfl rfl rfl rfl rfl rfl rfl ?_
  refine SeqC.or rfl rfl rfl rfl rfl rfl rfl ?_
  refine Seq.nil ?_
  refine Post.weak (F' := [(0, _), (2, _), (3, _), (18, _)]) ⟨rfl, rfl, rfl, rfl, trivial⟩ ?_
  refine Post.then_ ?_
  refine Cd.cond rfl (fun h => ?_) (fun h => ?_)
  · have hf : (decide (10 ≤ l.length) && !(decide (10 < l.length) && partB c0)) = false := by
      cases hp : partB c0 with
      | false => rw [hp] at h; simp at h ⊢; omega
      | true => rw [hp] at h; simp at h ⊢; omega
    rw [hf]
    refine Cd.seq ?_
    refine Cd.region ?_
    refine Seq.val (Runs.build rfl rfl (run_build_Word0 _)) rfl rfl rfl ?_
    refine Seq.storeN rfl rfl rfl rfl (m := 4) (by kernel_rfl) rfl (by repeat' first | exact trivial | apply And.intro | rfl | assumption) k2 (by simp [Value.cells]) rfl rfl ?_
    intro w3 pw3
    replace bel := bel.put k2 pw3 e2
    replace k2 := pw3.blk
    refine Seq.val (Runs.assign rfl rfl) rfl rfl rfl ?_
    refine Seq.nil ?_
    refine Post.weak (F' := [(0, _), (2, _), (3, _), (18, _)]) ⟨rfl, rfl, rfl, rfl, trivial⟩ ?_
    refine Post.then_ ?_
    refine Cd.ret ?_
    refine Post.then_ret ?_
    refine Post.endC2 rfl rfl rfl k2 Try.underlying50 rfl (m := 4) (by kernel_rfl) rfl (.inl rfl) ?_
    exact ⟨0, [], 0, rfl, (fun h => by cases h), bel⟩
  · have hf : (decide (10 ≤ l.length) && !(decide (10 < l.length) && partB c0)) = true := by
      cases hp : partB c0 with
      | false => rw [hp] at h; simp at h ⊢; omega
      | true => rw [hp] at h; simp at h ⊢; omega
    have h10 : 10 ≤ l.length := by simp at hf; exact hf.1
    rw [hf, Bool.true_and]
    refine Cd.skip ?_
    refine Post.then_ ?_
    refine Cd.seq ?_
    refine Cd.region ?_
    refine Seq.val (Runs.move rfl rfl) rfl rfl rfl ?_
    refine Seq.val (Runs.sliceTo (j := 10) rfl rfl rfl Try.underlying9 rfl h10) rfl rfl rfl ?_
    refine Seq.call (Enters.func rfl rfl rfl (run_enter Try.func136 (by kernel_rfl) rfl)) rfl rfl rfl (dateParse_any (l.take 10) _ (take_lt hl 10) (by rw [List.length_take]; omega)) ?_
    rintro e w5 ⟨rfl, hb5⟩
    refine ⟨_, rfl, ?_⟩
    replace bel := bel.step hb5
    replace k2 := k2.step hb5
    refine Seq.val (Runs.move rfl rfl) rfl rfl rfl ?_
    refine Seq.val (Runs.extract rfl rfl rfl) rfl rfl rfl ?_
    refine Seq.val (Runs.extract rfl rfl rfl) rfl rfl rfl ?_
    refine Seq.val (Runs.assign rfl rfl) rfl rfl rfl ?_
    refine Seq.val (Runs.assign rfl rfl) rfl rfl rfl ?_
    refine Seq.nil ?_
    refine Post.weak (F' := [(0, _), (2, _), (3, _), (4, _), (5, _), (18, _)]) ⟨rfl, rfl, rfl, rfl, rfl, rfl, trivial⟩ ?_
    refine Post.then_ ?_
    refine Cd.seq ?_
    refine Cd.region ?_
    refine Seq.val (Runs.move rfl rfl) rfl rfl rfl ?_
    refine Seq.val (Runs.sliceTo (j := 10) rfl rfl rfl Try.underlying9 rfl h10) rfl rfl rfl ?_
    refine Seq.val (Runs.move rfl rfl) rfl rfl rfl ?_
    refine Seq.val (Runs.build rfl rfl (run_build_Word3 _ _ _ _)) rfl rfl rfl ?_
    refine Seq.val (Runs.move rfl rfl) rfl rfl rfl ?_
    refine Seq.storeN rfl rfl rfl rfl (m := 4) (by kernel_rfl) rfl (by repeat' first | exact trivial | apply And.intro | rfl | assumption) k2 (by simp [Value.cells]) rfl rfl ?_
    intro w3 pw3
    replace bel := bel.put k2 pw3 e2
    replace k2 := pw3.blk
    refine Seq.val (Runs.assign rfl rfl) rfl rfl rfl ?_
    refine Seq.nil ?_
    refine Post.weak (F' := [(0, _), (2, _), (3, _), (4, _), (5, _), (18, _)]) ⟨rfl, rfl, rfl, rfl, rfl, rfl, trivial⟩ ?_
    refine Post.then_ ?_
    refine Cd.ret ?_
    refine Post.endC2 rfl rfl rfl k2 Try.underlying50 rfl (m := 4) (by kernel_rfl) rfl (.inl rfl) ?_
    exact ⟨2, l.take 10, dateZ (l.take 10), rfl, fun _ => ⟨rfl, rfl, rfl⟩, bel⟩
theorem number_any (l : List Nat) (w : World) (hl : ∀ x ∈ l, x < 256) (hlen : l.length ≤ 9223372036854775807) :
    Calls Try.prog 91 #[.string (strOf l)] w fun e w' => ∃ v ok, e = .returned (.tuple #[.agg #[.int .i64 1, .string (strOf (l.take (runN partB l))), .int .i64 v, .int .i64 0], .bool ok]) ∧ AmtA (l.take (runN partB l)) 0 v ok ∧ Grow w w' := by
  have bel := Below.refl w.heap.size w
  have hr := runN_le partB l
  refine Calls.start 22 Try.func91 rfl rfl rfl ?_
  refine Cd.seq ?_
  refine Cd.region ?_
  refine Seq.alloc rfl (run_zero zero_lex_Word) rfl rfl rfl ?_
  intro g2 w1 n2
  have e2 := Nat.le_trans bel.size n2.ge
  replace bel := bel.step n2.below
  have k2 := n2.blk
  refine Seq.val (Runs.assign rfl rfl) rfl rfl rfl ?_
  refine Seq.nil ?_
  refine Post.weak (F' := [(0, _), (2, _), (3, _)]) ⟨rfl, rfl, rfl, trivial⟩ ?_
  refine Post.then_ ?_
  refine Cd.seq ?_
  refine Cd.region ?_
  refine Seq.val (Runs.move rfl rfl) rfl rfl rfl ?_
  refine Seq.call (Enters.func rfl rfl rfl (run_enter Try.func56 (by kernel_rfl) rfl)) rfl rfl rfl (run_part l _ hl hlen) ?_
  rintro e w2 ⟨rfl, hb2⟩
  refine ⟨_, rfl, ?_⟩
  replace bel := bel.step hb2
  replace k2 := k2.step hb2
  generalize runN partB l = n at *
  refine Seq.val (Runs.assign rfl rfl) rfl rfl rfl ?_
  refine Seq.nil ?_
  refine Post.weak (F' := [(0, _), (2, _), (3, _), (4, _)]) ⟨rfl, rfl, rfl, rfl, trivial⟩ ?_
  refine Post.then_ ?_
  refine Cd.seq ?_
  refine Cd.region ?_
  refine Seq.val (Runs.move rfl rfl) rfl rfl rfl ?_
  refine Seq.val (Runs.move rfl rfl) rfl rfl rfl ?_
  refine Seq.val (Runs.sliceTo (j := n) rfl rfl rfl Try.underlying9 rfl hr) rfl rfl rfl ?_
  refine Seq.call (Enters.func rfl rfl rfl (run_enter Try.func137 (by kernel_rfl) rfl)) rfl rfl rfl (amount_any (l.take n) 0 _ (take_lt hl n) (by rw [List.length_take]; omega) (by unfold I64; omega)) ?_
  rintro e w3 ⟨v, ok, rfl, ha, hb3⟩
  refine ⟨_, rfl, ?_⟩
  replace bel := bel.step hb3
  replace k2 := k2.step hb3
  refine Seq.val (Runs.move rfl rfl) rfl rfl rfl ?_
  refine Seq.val (Runs.extract rfl rfl rfl) rfl rfl rfl ?_
  refine Seq.val (Runs.extract rfl rfl rfl) rfl rfl rfl ?_
  refine Seq.val (Runs.assign rfl rfl) rfl rfl rfl ?_
  refine Seq.val (Runs.assign rfl rfl) rfl rfl rfl ?_
  refine Seq.nil ?_
  refine Post.weak (F' := [(0, _), (2, _), (3, _), (4, _), (5, _), (6, _)]) ⟨rfl, rfl, rfl, rfl, rfl, rfl, trivial⟩ ?_
  refine Post.then_ ?_
  refine Cd.seq ?_
  refine Cd.region ?_
  refine Seq.val (Runs.move rfl rfl) rfl rfl rfl ?_
  refine Seq.val (Runs.move rfl rfl) rfl rfl rfl ?_
  refine Seq.val (Runs.sliceTo (j := n) rfl rfl rfl Try.underlying9 rfl hr) rfl rfl rfl ?_
  refine Seq.val (Runs.move rfl rfl) rfl rfl rfl ?_
  refine Seq.val (Runs.build rfl rfl (run_build_Word3 _ _ _ _)) rfl rfl rfl ?_
  refine Seq.val (Runs.move rfl rfl) rfl rfl rfl ?_
  refine Seq.storeN rfl rfl rfl rfl (m := 4) (by kernel_rfl) rfl (by repeat' first | exact trivial | apply And.intro | rfl | assumption) k2 (by simp [Value.cells]) rfl rfl ?_
  intro w2 pw2
  replace bel := bel.put k2 pw2 e2
  replace k2 := pw2.blk
  refine Seq.val (Runs.assign rfl rfl) rfl rfl rfl ?_
  refine Seq.nil ?_
  refine Post.weak (F' := [(0, _), (2, _), (3, _), (4, _), (5, _), (6, _)]) ⟨rfl, rfl, rfl, rfl, rfl, rfl, trivial⟩ ?_
  refine Post.then_ ?_
  refine Cd.ret ?_
  refine Post.endC2 rfl rfl rfl k2 Try.underlying50 rfl (m := 4) (by kernel_rfl) rfl (.inl rfl) ?_
  exact ⟨v, ok, rfl, ha, bel⟩
end Go.Proofs.Ytijaldpmpjapiaa
namespace Go.Proofs.Ytijaldpmpjapiaa
open Go.RowKit

/-- The word with which a text begins: its kind, text and number. -/
def nextW (l : List Nat) : Option (Int × List Nat × Int) := match l with
  | [] => none
  | c :: r => if digB c then (if dayOk (c :: r) then some (2, (c :: r).take 10, dateZ ((c :: r).take 10)) else (amt0 ((c :: r).take (runN partB (c :: r)))).map fun v => (1, (c :: r).take (runN partB (c :: r)), v))
    else if letB c then (if runN partB (c :: r) ≤ 16 then some (3, (c :: r).take (runN partB (c :: r)), 0) else none)
    else (signW (c :: r)).map fun s => (0, s, 0)
theorem find_at {α : Type} (p : α → Bool) : ∀ (L : List α) (k : Nat) (s : α), (∀ j s', j < k → L[j]? = some s' → p s' = false) → L[k]? = some s → p s = true → L.find? p = some s
  | [], k, s, _, h, _ => by simp at h
  | x :: L, 0, s, _, h, hp => by simp at h; subst h; simp [hp]
  | x :: L, k + 1, s, hn, h, hp => by
    have h0 := hn 0 x (by omega) (by simp)
    rw [List.find?_cons, h0]
    exact find_at p L k s (fun j s' hj hs => hn (j + 1) s' (by omega) (by simpa using hs)) (by simpa using h) hp
theorem find_no {α : Type} (p : α → Bool) (L : List α) (h : ∀ (j : Nat) (s' : α), L[j]? = some s' → p s' = false) : L.find? p = none := by
  rw [List.find?_eq_none]
  intro x hx
  obtain ⟨j, hj, rfl⟩ := List.getElem_of_mem hx
  rw [h j _ (List.getElem?_eq_getElem hj)]
  simp
theorem signs_lt : ∀ s ∈ signsL, ∀ x ∈ s, x < 256 := by decide
theorem next_any (l : List Nat) (w : World) (hl : ∀ x ∈ l, x < 256) (hlen : l.length ≤ 9223372036854775807) (hne : l ≠ []) :
    Calls Try.prog 51 #[.string (strOf l)] w fun e w' => ∃ a b c ok, e = .returned (.tuple #[.agg #[.int .i64 a, .string (strOf b), .int .i64 c, .int .i64 0], .bool ok]) ∧ nextW l = (if ok then some (a, b, c) else none) ∧ Grow w w' := by
  have bel := Below.refl w.heap.size w
  obtain ⟨c0, r, hcr⟩ : ∃ c r, l = c :: r := by
    cases l with
    | nil => exact absurd rfl hne
    | cons c r => exact ⟨c, r, rfl⟩
  have h0 : l[0]? = some c0 := by rw [hcr]; rfl
  have hc256 := hl c0 (List.mem_of_getElem? h0)
  have hnw : nextW l = if digB c0 then (if dayOk l then some (2, l.take 10, dateZ (l.take 10)) else (amt0 (l.take (runN partB l))).map fun v => (1, l.take (runN partB l), v))
    else if letB c0 then (if runN partB l ≤ 16 then some (3, l.take (runN partB l), 0) else none)
    else (signW l).map fun s => (0, s, 0) := by rw [hcr]; rfl
  have hrl := runN_le partB l
  refine Calls.start 49 Try.func51 rfl rfl rfl ?_
  refine Cd.seq ?_
  refine Cd.region ?_
  refine Seq.alloc rfl (run_zero zero_lex_Word) rfl rfl rfl ?_
  intro g2 w1 n2
  have e2 := Nat.le_trans bel.size n2.ge
  replace bel := bel.step n2.below
  have k2 := n2.blk
  refine Seq.val (Runs.assign rfl rfl) rfl rfl rfl ?_
  refine Seq.nil ?_
  refine Post.weak (F' := [(0, _), (2, _), (3, _)]) ⟨rfl, rfl, rfl, trivial⟩ ?_
  refine Post.then_ ?_
  refine Cd.seq ?_
  refine Cd.block ?_
  refine Cd.seq ?_
  refine Cd.region ?_
  refine Seq.val (Runs.move rfl rfl) rfl rfl rfl ?_
  refine Seq.val (Runs.indexL (l := l) (j := 0) rfl rfl rfl Try.underlying9 rfl h0 hc256) rfl rfl rfl ?_
  refine Seq.call (Enters.func rfl rfl rfl (run_enter Try.func89 (by kernel_rfl) rfl)) rfl rfl rfl (digitL_any c0 _) ?_
  rintro e w2 ⟨rfl, hb2⟩
  refine ⟨_, rfl, ?_⟩
  replace bel := bel.step hb2
  replace k2 := k2.step hb2
  refine Seq.val (Runs.assign rfl rfl) rfl rfl rfl ?_
  refine Seq.nil ?_
  refine Post.weak (F' := [(0, _), (2, _), (3, _), (9, _)]) ⟨rfl, rfl, rfl, rfl, trivial⟩ ?_
  refine Post.then_ ?_
  refine Cd.cond rfl (fun h => ?_) (fun h => ?_)
  · rw [h, if_pos rfl] at hnw
    refine Cd.seq ?_
    refine Cd.seq ?_
    refine Cd.region ?_
    refine Seq.val (Runs.move rfl rfl) rfl rfl rfl ?_
    refine Seq.call (Enters.func rfl rfl rfl (run_enter Try.func90 (by kernel_rfl) rfl)) rfl rfl rfl (day_any l _ hl hlen) ?_
    rintro e w3 ⟨a, b, c, rfl, hday, hb3⟩
    refine ⟨_, rfl, ?_⟩
    replace bel := bel.step hb3
    replace k2 := k2.step hb3
    refine Seq.val (Runs.move rfl rfl) rfl rfl rfl ?_
    refine Seq.val (Runs.extract rfl rfl rfl) rfl rfl rfl ?_
    refine Seq.val (Runs.extract rfl rfl rfl) rfl rfl rfl ?_
    refine Seq.alloc rfl (run_zero zero_lex_Word) rfl rfl rfl ?_
    intro g4 w2 n4
    have e4 := Nat.le_trans bel.size n4.ge
    have l4 := Nat.lt_of_lt_of_le k2.lt n4.ge
    replace bel := bel.step n4.below
    replace k2 := k2.step n4.below
    have k4 := n4.blk
    refine Seq.storeN rfl rfl rfl rfl (m := 4) (by kernel_rfl) rfl (by repeat' first | exact trivial | apply And.intro | rfl | assumption) k4 (by simp [Value.cells]) rfl rfl ?_
    intro w3 pw3
    replace bel := bel.put k4 pw3 e4
    replace k2 := k2.put pw3 (by omega)
    replace k4 := pw3.blk
    refine Seq.val (Runs.assign rfl rfl) rfl rfl rfl ?_
    refine Seq.nil ?_
    refine Post.weak (F' := [(0, _), (2, _), (3, _), (4, _), (5, _), (9, _)]) ⟨rfl, rfl, rfl, rfl, rfl, rfl, trivial⟩ ?_
    refine Post.then_ ?_
    refine Cd.seq ?_
    refine Cd.region ?_
    refine Seq.val (Runs.move rfl rfl) rfl rfl rfl ?_
    refine Seq.nil ?_
    refine Post.weak (F' := [(0, _), (2, _), (3, _), (4, _), (5, _), (9, _), (18, _)]) ⟨rfl, rfl, rfl, rfl, rfl, rfl, rfl, trivial⟩ ?_
    refine Post.then_ ?_
    refine Cd.cond rfl (fun hd => ?_) (fun hd => ?_)
    · rw [hd, if_pos rfl] at hnw
      obtain ⟨rfl, rfl, rfl⟩ := hday hd
      refine Cd.seq ?_
      refine Cd.region ?_
      refine Seq.val (Runs.loadW rfl rfl Try.underlying50 rfl k4 (m := 4) (by kernel_rfl) rfl) rfl rfl rfl ?_
      refine Seq.storeN rfl rfl rfl rfl (m := 4) (by kernel_rfl) rfl (by repeat' first | exact trivial | apply And.intro | rfl | assumption) k2 (by simp [Value.cells]) rfl rfl ?_
      intro w4 pw4
      replace bel := bel.put k2 pw4 e2
      replace k4 := k4.put pw4 (by omega)
      replace k2 := pw4.blk
      refine Seq.val (Runs.assign rfl rfl) rfl rfl rfl ?_
      refine Seq.nil ?_
      refine Post.weak (F' := [(0, _), (2, _), (3, _), (4, _), (5, _), (9, _), (18, _)]) ⟨rfl, rfl, rfl, rfl, rfl, rfl, rfl, trivial⟩ ?_
      refine Post.then_ ?_
      refine Cd.ret ?_
      refine Post.then_ret ?_
      refine Post.block_ret ?_
      refine Post.then_ret ?_
      refine Post.endC2 rfl rfl rfl k2 Try.underlying50 rfl (m := 4) (by kernel_rfl) rfl (.inl rfl) ?_
      exact ⟨_, _, _, true, rfl, hnw, bel⟩
    · rw [hd, if_neg (by simp)] at hnw
      refine Cd.skip ?_
      refine Post.then_ ?_
      refine Cd.seq ?_
      refine Cd.region ?_
      refine Seq.val (Runs.move rfl rfl) rfl rfl rfl ?_
      refine Seq.call (Enters.func rfl rfl rfl (run_enter Try.func91 (by kernel_rfl) rfl)) rfl rfl rfl (number_any l _ hl hlen) ?_
      rintro e w4 ⟨v, ok, rfl, ha, hb4⟩
      refine ⟨_, rfl, ?_⟩
      have hlt : l.take (runN partB l) = c0 :: (l.take (runN partB l)).drop 1 := by
        have hp : partB c0 = true := by unfold partB; rw [h]; simp
        rw [hcr, runN_cons, if_pos hp, List.take_succ_cons]
        rfl
      have hamt := amt0_of ha c0 _ hlt h
      replace bel := bel.step hb4
      replace k2 := k2.step hb4
      replace k4 := k4.step hb4
      refine Seq.val (Runs.extract rfl rfl rfl) rfl rfl rfl ?_
      refine Seq.val (Runs.extract rfl rfl rfl) rfl rfl rfl ?_
      refine Seq.storeN rfl rfl rfl rfl (m := 4) (by kernel_rfl) rfl (by repeat' first | exact trivial | apply And.intro | rfl | assumption) k2 (by simp [Value.cells]) rfl rfl ?_
      intro w4 pw4
      replace bel := bel.put k2 pw4 e2
      replace k4 := k4.put pw4 (by omega)
      replace k2 := pw4.blk
      refine Seq.val (Runs.assign rfl rfl) rfl rfl rfl ?_
      refine Seq.nil ?_
      refine Post.weak (F' := [(0, _), (2, _), (3, _), (4, _), (5, _), (9, _), (18, _)]) ⟨rfl, rfl, rfl, rfl, rfl, rfl, rfl, trivial⟩ ?_
      refine Post.then_ ?_
      refine Cd.ret ?_
      refine Post.block_ret ?_
      refine Post.then_ret ?_
      refine Post.endC2 rfl rfl rfl k2 Try.underlying50 rfl (m := 4) (by kernel_rfl) rfl (.inl rfl) ?_
      refine ⟨_, _, _, ok, rfl, ?_, bel⟩
      rw [hnw, hamt]
      cases ok <;> rfl
  · rw [h, if_neg (by simp)] at hnw
    refine Cd.seq ?_
    refine Cd.region ?_
    refine Seq.val (Runs.move rfl rfl) rfl rfl rfl ?_
    refine Seq.val (Runs.indexL (l := l) (j := 0) rfl rfl rfl Try.underlying9 rfl h0 hc256) rfl rfl rfl ?_
    refine Seq.call (Enters.func rfl rfl rfl (run_enter Try.func26 (by kernel_rfl) rfl)) rfl rfl rfl (letter_any c0 _) ?_
    rintro e w3 ⟨rfl, hb3⟩
    refine ⟨_, rfl, ?_⟩
    replace bel := bel.step hb3
    replace k2 := k2.step hb3
    refine Seq.val (Runs.assign rfl rfl) rfl rfl rfl ?_
    refine Seq.nil ?_
    refine Post.weak (F' := [(0, _), (2, _), (3, _), (9, _), (24, _)]) ⟨rfl, rfl, rfl, rfl, rfl, trivial⟩ ?_
    refine Post.then_ ?_
    refine Cd.cond rfl (fun h2 => ?_) (fun h2 => ?_)
    · rw [h2, if_pos rfl] at hnw
      refine Cd.seq ?_
      refine Cd.region ?_
      refine Seq.val (Runs.move rfl rfl) rfl rfl rfl ?_
      refine Seq.call (Enters.func rfl rfl rfl (run_enter Try.func56 (by kernel_rfl) rfl)) rfl rfl rfl (run_part l _ hl hlen) ?_
      rintro e w4 ⟨rfl, hb4⟩
      refine ⟨_, rfl, ?_⟩
      replace bel := bel.step hb4
      replace k2 := k2.step hb4
      generalize runN partB l = n at *
      refine Seq.val (Runs.assign rfl rfl) rfl rfl rfl ?_
      refine Seq.nil ?_
      refine Post.weak (F' := [(0, _), (2, _), (3, _), (6, _), (9, _), (24, _)]) ⟨rfl, rfl, rfl, rfl, rfl, rfl, trivial⟩ ?_
      refine Post.then_ ?_
      refine Cd.seq ?_
      refine Cd.region ?_
      refine Seq.val (Runs.move rfl rfl) rfl rfl rfl ?_
      refine Seq.val (Runs.move rfl rfl) rfl rfl rfl ?_
      refine Seq.val (Runs.sliceTo (j := n) rfl rfl rfl Try.underlying9 rfl hrl) rfl rfl rfl ?_
      refine Seq.val (Runs.build rfl rfl (run_build_Word2 _ _ _)) rfl rfl rfl ?_
      refine Seq.val (Runs.move rfl rfl) rfl rfl rfl ?_
      refine Seq.val (Runs.leq rfl rfl rfl) rfl rfl rfl ?_
      refine Seq.storeN rfl rfl rfl rfl (m := 4) (by kernel_rfl) rfl (by repeat' first | exact trivial | apply And.intro | rfl | assumption) k2 (by simp [Value.cells]) rfl rfl ?_
      intro w2 pw2
      replace bel := bel.put k2 pw2 e2
      replace k2 := pw2.blk
      refine Seq.val (Runs.assign rfl rfl) rfl rfl rfl ?_
      refine Seq.nil ?_
      refine Post.weak (F' := [(0, _), (2, _), (3, _), (6, _), (9, _), (24, _)]) ⟨rfl, rfl, rfl, rfl, rfl, rfl, trivial⟩ ?_
      refine Post.then_ ?_
      refine Cd.ret ?_
      refine Post.block_ret ?_
      refine Post.then_ret ?_
      refine Post.endC2 rfl rfl rfl k2 Try.underlying50 rfl (m := 4) (by kernel_rfl) rfl (.inl rfl) ?_
      refine ⟨3, l.take n, 0, decide ((n : Int) ≤ 16), rfl, ?_, bel⟩
      rw [hnw]
      by_cases hn : n ≤ 16
      · rw [if_pos hn, decide_eq_true (show (n : Int) ≤ 16 by omega)]; rfl
      · rw [if_neg hn, decide_eq_false (show ¬ (n : Int) ≤ 16 by omega)]; rfl
    · rw [h2, if_neg (by simp)] at hnw
      refine Cd.skip ?_
      refine Post.block_normal ?_
      refine Post.then_ ?_
      refine Cd.seq ?_
      refine Cd.seq ?_
      refine Cd.region ?_
      refine Seq.call (Enters.func rfl rfl rfl (run_enter Try.func92 (by kernel_rfl) rfl)) rfl rfl rfl (signs_any _) ?_
      rintro e w4 ⟨gs, rfl, ks, hb4⟩
      refine ⟨_, rfl, ?_⟩
      replace bel := bel.step hb4
      replace k2 := k2.step hb4
      refine Seq.val (Runs.len rfl rfl Try.underlying85) rfl rfl rfl ?_
      refine Seq.val (Runs.move rfl rfl) rfl rfl rfl ?_
      refine Seq.nil ?_
      refine Post.weak (F' := [(0, _), (2, _), (3, _), (9, _), (24, _), (36, _), (37, _), (38, _)]) ⟨rfl, rfl, rfl, rfl, rfl, rfl, rfl, rfl, trivial⟩ ?_
      refine Post.then_ ?_
      refine Cd.block ?_
      refine Cd.loop (σ := Nat) (fun k => [(0, .string (strOf l)), (2, .pointer (some ⟨g2, 0, none⟩)), (36, .slice (some ⟨gs, 0, none⟩) 16 16), (37, .int .i64 16), (38, .int .i64 (k : Int))])
        (fun k wr => k ≤ 16 ∧ (∀ j s', j < k → signsL[j]? = some s' → decide (l.take s'.length = s') = false) ∧ Below w.heap.size w wr ∧ Blk wr g2 50 #[.int .i64 0, .string { data := #[] }, .int .i64 0, .int .i64 0] ∧ Blk wr gs 9 (strV signsL).toArray) (fun k => 16 - k) 0 ⟨by omega, fun j s' hj => absurd hj (by omega), bel, k2, ks⟩ ⟨rfl, rfl, rfl, rfl, rfl, trivial⟩ ?_
      clear bel k2 ks
      rintro k wr ⟨hk, hno, bel, k2, ks⟩
      refine Cd.seq ?_
      refine Cd.region ?_
      refine Seq.val (Runs.lss rfl rfl rfl) rfl rfl rfl ?_
      refine Seq.nil ?_
      refine Post.weak (F' := [(0, _), (2, _), (36, _), (37, _), (38, _), (39, _)]) ⟨rfl, rfl, rfl, rfl, rfl, rfl, trivial⟩ ?_
      refine Post.then_ ?_
      refine Cd.seq ?_
      refine Cd.condD rfl (fun hc => ?_) (fun hc => ?_)
      · obtain ⟨s, hs⟩ : ∃ s, signsL[k]? = some s := ⟨_, List.getElem?_eq_getElem (show k < signsL.length by have : signsL.length = 16 := rfl; omega)⟩
        have hsl := signs_lt s (List.mem_of_getElem? hs)
        have hcell : (strV signsL).toArray[k]? = some (.string (strOf s)) := by
          unfold strV
          simp [hs]
        refine Cd.skip ?_
        refine Post.then_ ?_
        refine Cd.seq ?_
        refine Cd.block ?_
        refine Cd.seq ?_
        refine Cd.region ?_
        refine Seq.val (Runs.indexB rfl rfl rfl Try.underlying85 (by kernel_rfl) (j := k) rfl (by omega)) rfl rfl rfl ?_
        refine Seq.val (Runs.loadB rfl rfl Try.underlying9 rfl ks hcell) rfl rfl rfl ?_
        refine Seq.val (Runs.assign rfl rfl) rfl rfl rfl ?_
        refine Seq.nil ?_
        refine Post.weak (F' := [(0, _), (2, _), (8, _), (36, _), (37, _), (38, _), (39, _)]) ⟨rfl, rfl, rfl, rfl, rfl, rfl, rfl, trivial⟩ ?_
        refine Post.then_ ?_
        refine Cd.seq ?_
        refine Cd.region ?_
        refine Seq.val (Runs.move rfl rfl) rfl rfl rfl ?_
        refine Seq.val (Runs.move rfl rfl) rfl rfl rfl ?_
        refine Seq.call (Enters.func rfl rfl rfl (run_enter Try.func93 (by kernel_rfl) rfl)) rfl rfl rfl (hasPrefixL_any l s _ hl hsl) ?_
        rintro e w6 ⟨rfl, rfl⟩
        refine ⟨_, rfl, ?_⟩
        refine Seq.nil ?_
        refine Post.weak (F' := [(0, _), (2, _), (8, _), (36, _), (37, _), (38, _), (39, _), (44, _)]) ⟨rfl, rfl, rfl, rfl, rfl, rfl, rfl, rfl, trivial⟩ ?_
        refine Post.then_ ?_
        refine Cd.cond rfl (fun h3 => ?_) (fun h3 => ?_)
        · have hsw : signW l = some s := find_at _ signsL k s hno hs h3
          rw [hsw] at hnw
          refine Cd.seq ?_
          refine Cd.region ?_
          refine Seq.val (Runs.move rfl rfl) rfl rfl rfl ?_
          refine Seq.val (Runs.build rfl rfl (run_build_Word2 _ _ _)) rfl rfl rfl ?_
          refine Seq.storeN rfl rfl rfl rfl (m := 4) (by kernel_rfl) rfl (by repeat' first | exact trivial | apply And.intro | rfl | assumption) k2 (by simp [Value.cells]) rfl rfl ?_
          intro w2 pw2
          replace bel := bel.put k2 pw2 e2
          replace k2 := pw2.blk
          refine Seq.val (Runs.assign rfl rfl) rfl rfl rfl ?_
          refine Seq.nil ?_
          refine Post.weak (F' := [(0, _), (2, _), (3, _), (8, _), (36, _), (37, _), (38, _), (39, _), (44, _)]) ⟨rfl, rfl, rfl, rfl, rfl, rfl, rfl, rfl, rfl, trivial⟩ ?_
          refine Post.then_ ?_
          refine Cd.ret ?_
          refine Post.block_ret ?_
          refine Post.then_ret ?_
          refine Post.round_ret ?_
          refine Post.block_ret ?_
          refine Post.then_ret ?_
          refine Post.endC2 rfl rfl rfl k2 Try.underlying50 rfl (m := 4) (by kernel_rfl) rfl (.inl rfl) ?_
          exact ⟨0, s, 0, true, rfl, hnw, bel⟩
        · skip
          refine Cd.skip ?_
          refine Post.block_normal ?_
          refine Post.then_ ?_
          refine Cd.region ?_
          refine Seq.val (Runs.addI rfl rfl rfl (by omega) (by omega)) rfl rfl rfl ?_
          refine Seq.val (Runs.move rfl rfl) rfl rfl rfl ?_
          refine Seq.nil ?_
          refine Post.weak (F' := [(0, _), (2, _), (8, _), (36, _), (37, _), (38, _), (39, _), (44, _)]) ⟨rfl, rfl, rfl, rfl, rfl, rfl, rfl, rfl, trivial⟩ ?_
          refine Post.round (k + 1) ⟨rfl, rfl, rfl, rfl, rfl, trivial⟩ ⟨by omega, fun j s' hj hs' => ?_, bel, k2, ks⟩ (by omega)
          rcases Nat.lt_or_ge j k with h4 | h4
          · exact hno j s' h4 hs'
          · obtain rfl : j = k := by omega
            rw [hs] at hs'
            injection hs' with hs'
            subst hs'
            exact h3
      · have hsw : signW l = none := find_no _ signsL fun j s' hs' => hno j s' (by
          have := (List.getElem?_eq_some_iff.1 hs').1
          have h16 : signsL.length = 16 := rfl
          omega) hs'
        rw [hsw] at hnw
        refine Cd.exit ?_
        refine Post.then_exit ?_
        refine Post.round_exit ?_
        refine Post.block_exit ?_
        refine Post.then_ ?_
        refine Cd.seq ?_
        refine Cd.region ?_
        refine Seq.val (Runs.build rfl rfl (run_build_Word0 _)) rfl rfl rfl ?_
        refine Seq.storeN rfl rfl rfl rfl (m := 4) (by kernel_rfl) rfl (by repeat' first | exact trivial | apply And.intro | rfl | assumption) k2 (by simp [Value.cells]) rfl rfl ?_
        intro w2 pw2
        replace bel := bel.put k2 pw2 e2
        replace k2 := pw2.blk
        refine Seq.val (Runs.assign rfl rfl) rfl rfl rfl ?_
        refine Seq.nil ?_
        refine Post.weak (F' := [(0, _), (2, _), (3, _), (36, _), (37, _), (38, _), (39, _)]) ⟨rfl, rfl, rfl, rfl, rfl, rfl, rfl, trivial⟩ ?_
        refine Post.then_ ?_
        refine Cd.ret ?_
        refine Post.endC2 rfl rfl rfl k2 Try.underlying50 rfl (m := 4) (by kernel_rfl) rfl (.inl rfl) ?_
        exact ⟨0, [], 0, false, rfl, hnw, bel⟩
end Go.Proofs.Ytijaldpmpjapiaa
namespace Go.Proofs.Ytijaldpmpjapiaa
open Go.RowKit

/-- A word: its kind, text, number and place. -/
structure Wd where
  kind : Int
  text : List Nat
  n : Int
  pos : Nat
/-- The words from a place on; or where none can stand. -/
def lexW : Nat → List Nat → Nat → List Wd × Option Nat
  | 0, _, _ => ([], none)
  | f + 1, l, p => if l.length ≤ p then ([], none) else match nextW (l.drop p) with
    | none => ([], some p)
    | some (k, t, n) => (⟨k, t, n, p⟩ :: (lexW f l (p + t.length + blankN (l.drop (p + t.length)))).1, (lexW f l (p + t.length + blankN (l.drop (p + t.length)))).2)
def lexAll (l : List Nat) : List Wd × Option Nat := lexW (l.length + 1) l (blankN l)
def wdCells (ws : List Wd) : List Value := ws.flatMap fun x => [.int .i64 x.kind, .string (strOf x.text), .int .i64 x.n, .int .i64 (x.pos : Int)]
theorem wdCells_snoc (ws : List Wd) (x : Wd) : wdCells (ws ++ [x]) = wdCells ws ++ [.int .i64 x.kind, .string (strOf x.text), .int .i64 x.n, .int .i64 (x.pos : Int)] := by simp [wdCells]
theorem lexW_end (f : Nat) (l : List Nat) (p : Nat) (h : l.length ≤ p) : lexW f l p = ([], none) := by
  cases f with
  | zero => rfl
  | succ f => unfold lexW; rw [if_pos h]
theorem lexW_step (f : Nat) (l : List Nat) (p : Nat) (h : p < l.length) : lexW (f + 1) l p = match nextW (l.drop p) with
    | none => ([], some p)
    | some (k, t, n) => (⟨k, t, n, p⟩ :: (lexW f l (p + t.length + blankN (l.drop (p + t.length)))).1, (lexW f l (p + t.length + blankN (l.drop (p + t.length)))).2) := by
  rw [lexW, if_neg (by omega)]
theorem run_pos {l : List Nat} {c : Nat} {r : List Nat} (h : l = c :: r) (hp : partB c = true) : 0 < runN partB l := by rw [h, runN_cons, if_pos hp]; omega
theorem nextW_spec {l : List Nat} {k : Int} {t : List Nat} {n : Int} (h : nextW l = some (k, t, n)) : 0 < t.length ∧ t = l.take t.length ∧ t.length ≤ l.length := by
  cases l with
  | nil => cases h
  | cons c r =>
    have hrl := runN_le partB (c :: r)
    have htk : ∀ j, j ≤ (c :: r).length → 0 < j → 0 < ((c :: r).take j).length ∧ (c :: r).take j = (c :: r).take ((c :: r).take j).length ∧ ((c :: r).take j).length ≤ (c :: r).length := by
      intro j hj h0
      have : ((c :: r).take j).length = j := by rw [List.length_take]; omega
      rw [this]
      exact ⟨h0, rfl, hj⟩
    unfold nextW at h
    simp only at h
    generalize hl : c :: r = l at *
    split at h
    · rename_i hd
      have hp : partB c = true := by unfold partB; rw [hd]; simp
      have h0 := run_pos hl.symm hp
      split at h
      · rename_i hday
        injection h with h
        injection h with h1 h
        injection h with h2 h
        subst h2
        refine htk 10 ?_ (by omega)
        unfold dayOk at hday
        simp at hday
        exact hday.1.1
      · cases ha : amt0 (l.take (runN partB l)) with
        | none => rw [ha] at h; cases h
        | some v =>
          rw [ha] at h
          injection h with h
          injection h with h1 h
          injection h with h2 h
          subst h2
          exact htk _ hrl h0
    · split at h
      · rename_i hd
        have hp : partB c = true := by unfold partB; rw [hd]; simp
        have h0 := run_pos hl.symm hp
        split at h
        · injection h with h
          injection h with h1 h
          injection h with h2 h
          subst h2
          exact htk _ hrl h0
        · cases h
      · cases hs : signW l with
        | none => rw [hs] at h; cases h
        | some s =>
          rw [hs] at h
          injection h with h
          injection h with h1 h
          injection h with h2 h
          subst h2
          have hm := List.mem_of_find?_eq_some hs
          have hp := List.find?_some hs
          simp at hp
          have h0 : 0 < s.length := by
            have : ∀ s ∈ signsL, 0 < s.length := by decide
            exact this s hm
          refine ⟨h0, hp.symm, ?_⟩
          have := congrArg List.length hp
          rw [List.length_take] at this
          omega
/-- A slice of the call's own, whatever is stored elsewhere. -/
structure OwnA (w : World) (B : Nat) (e : TypeId) (size : Nat) (v : Value) (n : Nat) (xs : List Value) : Prop where
  own : Own w B e size v n xs
section
variable {w w' : World} {B size n : Nat} {e : TypeId} {v : Value} {xs : List Value}
theorem OwnA.step (h : OwnA w B e size v n xs) (hb : Below w.heap.size w w') : OwnA w' B e size v n xs := ⟨h.own.step hb⟩
theorem OwnA.put {g B' : Nat} {T : TypeId} {cur cs : Array Value} (h : OwnA w B e size v n xs) (_k : Blk w g T cur) (p : Put w w' g T cs) (_e : B' ≤ g) (hne : v.ownBlock ≠ some g := by assumption) : OwnA w' B e size v n xs := ⟨⟨h.own.row.kept p.grown (.inr hne)⟩⟩
theorem OwnA.ne (h : OwnA w B e size v n xs) {g : Nat} (hg : w.heap.size ≤ g) : v.ownBlock ≠ some g := by
  intro hv
  obtain ⟨hl, ⟨h0, h1⟩ | ⟨g', cap, cur, h0, h1, h2, h3, h4, h5, h6⟩⟩ := h.own.row
  · rw [h0] at hv; cases hv
  · rw [h0] at hv
    injection hv with hv
    have hv : g' = g := hv
    have hlt : g' < w.heap.size := Blk.lt (cs := cur) (t := e) h2
    omega
end
theorem words_any (l : List Nat) (w : World) (hl : ∀ x ∈ l, x < 256) (hlen : l.length ≤ 9223372036854775807) :
    Calls Try.prog 19 #[.string (strOf l)] w fun e w' => Grow w w' ∧ ((4000 < l.length ∧ e = .returned (.tuple #[.slice none 0 0, .int .i64 0, .int .i64 4])) ∨
      (l.length ≤ 4000 ∧ ∃ p : Nat, (lexAll l).2 = some p ∧ e = .returned (.tuple #[.slice none 0 0, .int .i64 (p : Int), .int .i64 11])) ∨
      (l.length ≤ 4000 ∧ (lexAll l).2 = none ∧ ∃ v, e = .returned (.tuple #[v, .int .i64 0, .int .i64 0]) ∧ Own w' w.heap.size 50 4 v (lexAll l).1.length (wdCells (lexAll l).1))) := by
  have bel := Below.refl w.heap.size w
  refine Calls.start 46 Try.func19 rfl rfl rfl ?_
  refine Cd.seq ?_
  refine Cd.region ?_
  refine Seq.val (Runs.assign rfl rfl) rfl rfl rfl ?_
  refine Seq.val (Runs.assign rfl rfl) rfl rfl rfl ?_
  refine Seq.val (Runs.assign rfl rfl) rfl rfl rfl ?_
  refine Seq.nil ?_
  refine Post.weak (F' := [(0, _), (2, _), (3, _), (4, _)]) ⟨rfl, rfl, rfl, rfl, trivial⟩ ?_
  refine Post.then_ ?_
  refine Cd.seq ?_
  refine Cd.seq ?_
  refine Cd.region ?_
  refine Seq.val (Runs.move rfl rfl) rfl rfl rfl ?_
  refine Seq.val (Runs.lenL rfl rfl Try.underlying9) rfl rfl rfl ?_
  refine Seq.val (Runs.gtr rfl rfl rfl) rfl rfl rfl ?_
  refine Seq.nil ?_
  refine Post.weak (F' := [(0, _), (2, _), (3, _), (4, _), (11, _)]) ⟨rfl, rfl, rfl, rfl, rfl, trivial⟩ ?_
  refine Post.then_ ?_
  refine Cd.condD rfl (fun h => ?_) (fun h => ?_)
  · skip
    refine Cd.seq ?_
    refine Cd.region ?_
    refine Seq.val (Runs.assign rfl rfl) rfl rfl rfl ?_
    refine Seq.val (Runs.assign rfl rfl) rfl rfl rfl ?_
    refine Seq.val (Runs.assign rfl rfl) rfl rfl rfl ?_
    refine Seq.nil ?_
    refine Post.weak (F' := [(0, _), (2, _), (3, _), (4, _), (11, _)]) ⟨rfl, rfl, rfl, rfl, rfl, trivial⟩ ?_
    refine Post.then_ ?_
    refine Cd.ret ?_
    refine Post.then_ret ?_
    refine Post.end3 rfl rfl rfl rfl (.inl rfl) ?_
    exact ⟨bel, .inl ⟨by omega, rfl⟩⟩
  have h4 : l.length ≤ 4000 := by omega
  clear h
  have hb0 := blankN_le l
  refine Cd.skip ?_
  refine Post.then_ ?_
  refine Cd.seq ?_
  refine Cd.region ?_
  refine Seq.val (Runs.assign rfl rfl) rfl rfl rfl ?_
  refine Seq.nil ?_
  refine Post.weak (F' := [(0, _), (2, _), (3, _), (4, _), (5, _), (11, _)]) ⟨rfl, rfl, rfl, rfl, rfl, rfl, trivial⟩ ?_
  refine Post.then_ ?_
  refine Cd.seq ?_
  refine Cd.seq ?_
  refine Cd.region ?_
  refine Seq.val (Runs.move rfl rfl) rfl rfl rfl ?_
  refine Seq.call (Enters.func rfl rfl rfl (run_enter Try.func50 (by kernel_rfl) rfl)) rfl rfl rfl (blank_any l _ hl hlen) ?_
  rintro e w4 ⟨rfl, hb4⟩
  refine ⟨_, rfl, ?_⟩
  replace bel := bel.step hb4
  have own : OwnA w4 w.heap.size 50 4 (.slice none 0 0) 0 [] := ⟨Own.nil _ _ _ _⟩
  refine Seq.val (Runs.assign rfl rfl) rfl rfl rfl ?_
  refine Seq.nil ?_
  refine Post.weak (F' := [(0, _), (2, _), (3, _), (4, _), (5, _), (6, _), (11, _)]) ⟨rfl, rfl, rfl, rfl, rfl, rfl, rfl, trivial⟩ ?_
  refine Post.then_ ?_
  refine Cd.block ?_
  refine Cd.loop (σ := Nat × Value × List Wd) (fun s => [(0, .string (strOf l)), (5, s.2.1), (6, .int .i64 (s.1 : Int))])
    (fun s wr => s.1 ≤ l.length ∧ s.2.2.length ≤ s.1 ∧ (∃ f, l.length + 1 ≤ f + s.1 ∧ lexAll l = (s.2.2 ++ (lexW f l s.1).1, (lexW f l s.1).2)) ∧ Below w.heap.size w wr ∧ OwnA wr w.heap.size 50 4 s.2.1 s.2.2.length (wdCells s.2.2)) (fun s => l.length - s.1) (blankN l, .slice none 0 0, [])
    ⟨hb0, by simp, ⟨l.length + 1, by dsimp only; omega, rfl⟩, bel, own⟩ ⟨rfl, rfl, rfl, trivial⟩ ?_
  clear bel
  clear own
  rintro ⟨p, v, ws⟩ wr ⟨hp, hwp, ⟨f, hf, hall⟩, bel, own⟩
  dsimp only at hp hwp hf hall own ⊢
  refine Cd.seq ?_
  refine Cd.seq ?_
  refine Cd.region ?_
  refine Seq.val (Runs.move rfl rfl) rfl rfl rfl ?_
  refine Seq.val (Runs.move rfl rfl) rfl rfl rfl ?_
  refine Seq.val (Runs.lenL rfl rfl Try.underlying9) rfl rfl rfl ?_
  refine Seq.val (Runs.lss rfl rfl rfl) rfl rfl rfl ?_
  refine Seq.nil ?_
  refine Post.weak (F' := [(0, _), (5, _), (6, _), (17, _)]) ⟨rfl, rfl, rfl, rfl, trivial⟩ ?_
  refine Post.then_ ?_
  refine Cd.condD rfl (fun hc => ?_) (fun hc => ?_)
  · obtain ⟨f', rfl⟩ : ∃ f', f = f' + 1 := ⟨f - 1, by omega⟩
    have hdl := drop_lt hl p
    have hdn : (l.drop p).length ≤ 9223372036854775807 := by rw [List.length_drop]; omega
    have hstep := lexW_step f' l p (by omega)
    refine Cd.skip ?_
    refine Post.then_ ?_
    refine Cd.seq ?_
    refine Cd.block ?_
    refine Cd.seq ?_
    refine Cd.region ?_
    refine Seq.val (Runs.move rfl rfl) rfl rfl rfl ?_
    refine Seq.val (Runs.move rfl rfl) rfl rfl rfl ?_
    refine Seq.val (Runs.sliceFrom (j := p) rfl rfl rfl Try.underlying9 rfl hp) rfl rfl rfl ?_
    refine Seq.call (Enters.func rfl rfl rfl (run_enter Try.func51 (by kernel_rfl) rfl)) rfl rfl rfl (next_any (l.drop p) _ hdl hdn (by intro h0; have := congrArg List.length h0; rw [List.length_drop] at this; simp at this; omega)) ?_
    rintro e w6 ⟨a, b, c, ok, rfl, hnx, hb6⟩
    refine ⟨_, rfl, ?_⟩
    replace bel := bel.step hb6
    replace own := own.step hb6
    have hneg : ∀ g, w6.heap.size ≤ g → v.ownBlock ≠ some g := fun g hg => own.ne hg
    have hstep1 : ok = false → lexW (f' + 1) l p = ([], some p) := fun h => by rw [hstep, hnx, h]; rfl
    have hstep2 : ok = true → lexW (f' + 1) l p = (⟨a, b, c, p⟩ :: (lexW f' l (p + b.length + blankN (l.drop (p + b.length)))).1, (lexW f' l (p + b.length + blankN (l.drop (p + b.length)))).2) := fun h => by rw [hstep, hnx, h]; rfl
    have hspec : ok = true → 0 < b.length ∧ b = (l.drop p).take b.length ∧ b.length ≤ (l.drop p).length := fun h => nextW_spec (by rw [hnx, h]; rfl)
    clear hstep hnx
    refine Seq.val (Runs.move rfl rfl) rfl rfl rfl ?_
    refine Seq.val (Runs.extract rfl rfl rfl) rfl rfl rfl ?_
    refine Seq.val (Runs.extract rfl rfl rfl) rfl rfl rfl ?_
    refine Seq.alloc rfl (run_zero zero_lex_Word) rfl rfl rfl ?_
    intro g7 w1 n7
    have e7 := Nat.le_trans bel.size n7.ge
    replace bel := bel.step n7.below
    replace own := own.step n7.below
    have k7 := n7.blk
    have hne7 : v.ownBlock ≠ some g7 := hneg g7 n7.ge
    refine Seq.storeN rfl rfl rfl rfl (m := 4) (by kernel_rfl) rfl (by repeat' first | exact trivial | apply And.intro | rfl | assumption) k7 (by simp [Value.cells]) rfl rfl ?_
    intro w2 pw2
    replace bel := bel.put k7 pw2 e7
    replace own := own.put k7 pw2 e7
    replace k7 := pw2.blk
    refine Seq.val (Runs.assign rfl rfl) rfl rfl rfl ?_
    refine Seq.nil ?_
    refine Post.weak (F' := [(0, _), (5, _), (6, _), (7, _), (8, _), (17, _)]) ⟨rfl, rfl, rfl, rfl, rfl, rfl, trivial⟩ ?_
    refine Post.then_ ?_
    refine Cd.seq ?_
    refine Cd.seq ?_
    refine Cd.region ?_
    refine Seq.val (Runs.move rfl rfl) rfl rfl rfl ?_
    refine Seq.val (Runs.not rfl rfl) rfl rfl rfl ?_
    refine Seq.nil ?_
    refine Post.weak (F' := [(0, _), (5, _), (6, _), (7, _), (8, _), (17, _), (32, _)]) ⟨rfl, rfl, rfl, rfl, rfl, rfl, rfl, trivial⟩ ?_
    refine Post.then_ ?_
    refine Cd.cond rfl (fun h => ?_) (fun h => ?_)
    · have hok : ok = false := by cases ok <;> simp at h ⊢
      rw [hstep1 hok] at hall
      refine Cd.seq ?_
      refine Cd.region ?_
      refine Seq.val (Runs.move rfl rfl) rfl rfl rfl ?_
      refine Seq.val (Runs.assign rfl rfl) rfl rfl rfl ?_
      refine Seq.val (Runs.assign rfl rfl) rfl rfl rfl ?_
      refine Seq.val (Runs.assign rfl rfl) rfl rfl rfl ?_
      refine Seq.nil ?_
      refine Post.weak (F' := [(0, _), (2, _), (3, _), (4, _), (5, _), (6, _), (7, _), (8, _), (17, _), (32, _)]) ⟨rfl, rfl, rfl, rfl, rfl, rfl, rfl, rfl, rfl, rfl, trivial⟩ ?_
      refine Post.then_ ?_
      refine Cd.ret ?_
      refine Post.then_ret ?_
      refine Post.block_ret ?_
      refine Post.then_ret ?_
      refine Post.round_ret ?_
      refine Post.block_ret ?_
      refine Post.then_ret ?_
      refine Post.end3 rfl rfl rfl rfl (.inl rfl) ?_
      exact ⟨bel, .inr (.inl ⟨h4, p, by rw [hall], rfl⟩)⟩
    · have hok : ok = true := by cases ok <;> simp at h ⊢
      obtain ⟨s1, s2, s3⟩ := hspec hok
      rw [List.length_drop] at s3
      rw [hstep2 hok] at hall
      clear hstep1 hstep2 hspec
      have hbl := blankN_le (l.drop (p + b.length))
      rw [List.length_drop] at hbl
      refine Cd.skip ?_
      refine Post.then_ ?_
      refine Cd.seq ?_
      refine Cd.region ?_
      refine Seq.val (Runs.move rfl rfl) rfl rfl rfl ?_
      refine Seq.val (Runs.fieldB 3 rfl rfl Try.underlying50 rfl (by kernel_rfl)) rfl rfl rfl ?_
      refine Seq.store1 rfl rfl rfl (by kernel_rfl) rfl rfl k7 rfl rfl rfl ?_
      intro w3 pw3
      replace bel := bel.put k7 pw3 e7
      replace own := own.put k7 pw3 e7
      replace k7 := pw3.blk
      refine Seq.nil ?_
      refine Post.weak (F' := [(0, _), (5, _), (6, _), (7, _), (8, _), (17, _), (32, _)]) ⟨rfl, rfl, rfl, rfl, rfl, rfl, rfl, trivial⟩ ?_
      refine Post.then_ ?_
      refine Cd.seq ?_
      refine Cd.region ?_
      refine Seq.val (Runs.move rfl rfl) rfl rfl rfl ?_
      refine Seq.val (Runs.loadW rfl rfl Try.underlying50 rfl k7 (m := 4) (by kernel_rfl) rfl) rfl rfl rfl ?_
      refine Seq.slice (vs := [_]) (s := 4) rfl rfl rfl Try.underlying40 (by kernel_rfl) (zero_lex_Word) (by omega) (by omega) ⟨rfl, trivial⟩ rfl rfl rfl ?_
      intro g38 w4 n38
      have e38 := Nat.le_trans bel.size n38.ge
      have l38 := Nat.lt_of_lt_of_le k7.lt n38.ge
      replace bel := bel.step n38.below
      replace own := own.step n38.below
      replace k7 := k7.step n38.below
      have k38 := n38.blk
      replace own := own.own
      refine Seq.append rfl rfl rfl Try.underlying40 (by kernel_rfl) zero_lex_Word rfl (by decide) (b := 40) (by kernel_rfl) own (Reads.blk (size := 4) k38 1 rfl) (by intro x hx; simp [flatC, Value.cells] at hx; rcases hx with rfl | rfl | rfl | rfl <;> rfl) bel.size (by simp only [maxLen]; omega) (by omega) rfl rfl rfl ?_
      clear own
      intro vw5 w5 own haw5
      replace bel := bel.trans haw5.below
      replace k7 := k7.grown haw5.grown (fun e => hne7 e.symm)
      replace own : OwnA w5 w.heap.size 50 4 vw5 (ws ++ [(⟨a, b, c, p⟩ : Wd)]).length (wdCells (ws ++ [⟨a, b, c, p⟩])) := ⟨by rw [List.length_append, wdCells_snoc]; exact own⟩
      refine Seq.val (Runs.assign rfl rfl) rfl rfl rfl ?_
      refine Seq.nil ?_
      refine Post.weak (F' := [(0, _), (5, _), (6, _), (7, _), (8, _), (17, _), (32, _)]) ⟨rfl, rfl, rfl, rfl, rfl, rfl, rfl, trivial⟩ ?_
      refine Post.then_ ?_
      refine Cd.region ?_
      refine Seq.val (Runs.move rfl rfl) rfl rfl rfl ?_
      refine Seq.val (Runs.fieldB 1 rfl rfl Try.underlying50 rfl (by kernel_rfl)) rfl rfl rfl ?_
      refine Seq.val (Runs.loadB rfl rfl Try.underlying9 rfl k7 rfl) rfl rfl rfl ?_
      refine Seq.val (Runs.lenL rfl rfl Try.underlying9) rfl rfl rfl ?_
      refine Seq.val (Runs.addI rfl rfl rfl (by omega) (by omega)) rfl rfl rfl ?_
      refine Seq.val (Runs.assign rfl rfl) rfl rfl rfl ?_
      refine Seq.nil ?_
      refine Post.weak (F' := [(0, _), (5, _), (6, _), (7, _), (8, _), (17, _), (32, _)]) ⟨rfl, rfl, rfl, rfl, rfl, rfl, rfl, trivial⟩ ?_
      refine Post.block_normal ?_
      refine Post.then_ ?_
      refine Cd.region ?_
      refine Seq.val (Runs.move rfl rfl) rfl rfl rfl ?_
      refine Seq.val (Runs.move rfl rfl) rfl rfl rfl ?_
      refine Seq.val (Runs.move rfl rfl) rfl rfl rfl ?_
      refine Seq.val (Runs.sliceFrom (j := p + b.length) rfl rfl rfl Try.underlying9 rfl (by omega)) rfl rfl rfl ?_
      refine Seq.call (Enters.func rfl rfl rfl (run_enter Try.func50 (by kernel_rfl) rfl)) rfl rfl rfl (blank_any (l.drop (p + b.length)) _ (drop_lt hl _) (by rw [List.length_drop]; omega)) ?_
      rintro e w8 ⟨rfl, hb8⟩
      refine ⟨_, rfl, ?_⟩
      replace bel := bel.step hb8
      replace own := own.step hb8
      replace k7 := k7.step hb8
      generalize hq : p + b.length + blankN (l.drop (p + b.length)) = q at *
      refine Seq.val (Runs.addI rfl rfl rfl (by omega) (by omega)) rfl rfl rfl ?_
      refine Seq.val (Runs.assign rfl rfl) rfl rfl rfl ?_
      refine Seq.nil ?_
      refine Post.weak (F' := [(0, _), (5, _), (6, _), (7, _), (8, _), (17, _), (32, _)]) ⟨rfl, rfl, rfl, rfl, rfl, rfl, rfl, trivial⟩ ?_
      refine Post.round (q, vw5, ws ++ [⟨a, b, c, p⟩]) ⟨rfl, rfl, congrArg (fun x : Int => some (Value.int .i64 x)) (show ((p : Int) + (b.length : Int) + (blankN (l.drop (p + b.length)) : Int)) = ((q : Nat) : Int) by omega), trivial⟩ ⟨by dsimp only; omega, by dsimp only; rw [List.length_append]; simp; omega, ⟨f', by dsimp only; omega, ?_⟩, bel, own⟩ (by dsimp only; omega)
      dsimp only
      rw [hall, List.append_assoc]
      rfl
  · have hpe : p = l.length := by omega
    rw [lexW_end f l p (by omega)] at hall
    dsimp only at hall
    rw [List.append_nil] at hall
    refine Cd.exit ?_
    refine Post.then_exit ?_
    refine Post.round_exit ?_
    refine Post.block_exit ?_
    refine Post.then_ ?_
    refine Cd.seq ?_
    refine Cd.region ?_
    refine Seq.val (Runs.move rfl rfl) rfl rfl rfl ?_
    refine Seq.val (Runs.assign rfl rfl) rfl rfl rfl ?_
    refine Seq.val (Runs.assign rfl rfl) rfl rfl rfl ?_
    refine Seq.val (Runs.assign rfl rfl) rfl rfl rfl ?_
    refine Seq.nil ?_
    refine Post.weak (F' := [(0, _), (2, _), (3, _), (4, _), (5, _), (6, _), (17, _)]) ⟨rfl, rfl, rfl, rfl, rfl, rfl, rfl, trivial⟩ ?_
    refine Post.then_ ?_
    refine Cd.ret ?_
    refine Post.end3 rfl rfl rfl rfl (.inl rfl) ?_
    exact ⟨bel, .inr (.inr ⟨h4, by rw [hall], v, rfl, by rw [hall]; exact own.own⟩)⟩
end Go.Proofs.Ytijaldpmpjapiaa
