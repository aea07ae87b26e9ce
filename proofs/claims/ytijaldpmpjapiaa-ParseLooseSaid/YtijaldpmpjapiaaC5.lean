/-
  Texts that were joined: PanK, PanL, PanM, LexI, LexJ, PanN, PanO, PanP, PanQ, ParB, PanR, PanS, PanT, PanU, PanV, CutA, CutB, CutC, LooA, LooB, LooC. Conditions: what each theorem names.
-/
import Derived.Test.YtijaldpmpjapiaaC4
import Derived.Recover
set_option linter.unusedSectionVars false
namespace Go.Proofs.Ytijaldpmpjapiaa
open Go.RowKit

/-- A part of a term, as a function value. -/
def partV (x : Nat × Nat × Nat) : Value := .func (.func x.1) #[] #[.pointer (some ⟨x.2.1, 0, none⟩), .pointer (some ⟨x.2.2, 0, none⟩)]
def BoxT (K : Ctx) (gt : Nat) (x : Nat × Nat × Nat) (W : World) : Prop := Blk W x.2.1 148 #[.pointer (some ⟨gt, 0, none⟩)] ∧ Blk W x.2.2 99 #[.pointer (some ⟨K.g, 0, none⟩)]
def BoxL (K : Ctx) (gt : Nat) (L : List (Nat × Nat × Nat)) (W : World) : Prop := ∀ x ∈ L, BoxT K gt x W
theorem BoxL.step {K : Ctx} {gt : Nat} {L : List (Nat × Nat × Nat)} {W W' : World} (h : BoxL K gt L W) (hb : Below W.heap.size W W') : BoxL K gt L W' := fun x hx => ⟨(h x hx).1.step hb, (h x hx).2.step hb⟩
theorem BoxL.app {K : Ctx} {gt B B' n size : Nat} {v : Value} {xs : List Value} {L : List (Nat × Nat × Nat)} {W W' : World} (h : BoxL K gt L W) (o : Own W B 1 size v n xs) (ha : App W W' B' v) : BoxL K gt L W' := fun x hx => ⟨(h x hx).1.app o ha, (h x hx).2.app o ha⟩
theorem BoxL.snoc {K : Ctx} {gt : Nat} {L : List (Nat × Nat × Nat)} {W : World} {x : Nat × Nat × Nat} (h : BoxL K gt L W) (hx : BoxT K gt x W) : BoxL K gt (L ++ [x]) W := fun y hy => by
  rcases List.mem_append.1 hy with hy | hy
  · exact h y hy
  · obtain rfl := List.mem_singleton.1 hy
    exact hx
theorem subV_any (K : Ctx) (gt : Nat) (w : World) : Calls Try.prog 115 #[.pointer (some ⟨K.g, 0, none⟩), .pointer (some ⟨gt, 0, none⟩)] w fun e w' => (∃ a b, e = .returned (partV (152, a, b)) ∧ BoxT K gt (152, a, b) w') ∧ Grow w w' := by
  have bel := Below.refl w.heap.size w
  refine Calls.start 6 Try.func115 rfl rfl rfl ?_
  refine Cd.seq ?_
  refine Cd.region ?_
  refine Seq.box rfl rfl rfl rfl rfl ?_
  intro g2 w1 n2
  have e2 := Nat.le_trans bel.size n2.ge
  replace bel := bel.step n2.below
  have k2 := n2.blk
  refine Seq.box rfl rfl rfl rfl rfl ?_
  intro g3 w2 n3
  have e3 := Nat.le_trans bel.size n3.ge
  have l3 := Nat.lt_of_lt_of_le k2.lt n3.ge
  replace bel := bel.step n3.below
  replace k2 := k2.step n3.below
  have k3 := n3.blk
  refine Seq.val (Runs.assign rfl rfl) rfl rfl rfl ?_
  refine Seq.nil ?_
  refine Post.weak (F' := [(0, _), (1, _), (2, _), (3, _), (4, _)]) ⟨rfl, rfl, rfl, rfl, rfl, trivial⟩ ?_
  refine Post.then_ ?_
  refine Cd.seq ?_
  refine Cd.region ?_
  refine Seq.val (Runs.makeFunc (v := .func (.func 152) #[] #[.pointer (some ⟨g3, 0, none⟩), .pointer (some ⟨g2, 0, none⟩)]) rfl (show evL _ _ = some [] from rfl) (show evL _ _ = some [.pointer (some ⟨g3, 0, none⟩), .pointer (some ⟨g2, 0, none⟩)] from rfl) rfl) rfl rfl rfl ?_
  refine Seq.val (Runs.assign rfl rfl) rfl rfl rfl ?_
  refine Seq.nil ?_
  refine Post.weak (F' := [(0, _), (1, _), (2, _), (3, _), (4, _)]) ⟨rfl, rfl, rfl, rfl, rfl, trivial⟩ ?_
  refine Post.then_ ?_
  refine Cd.ret ?_
  refine Post.end1 rfl rfl (.inl rfl) ?_
  exact ⟨⟨_, _, rfl, k3, k2⟩, bel⟩
theorem condV_any (K : Ctx) (gt : Nat) (w : World) : Calls Try.prog 114 #[.pointer (some ⟨K.g, 0, none⟩), .pointer (some ⟨gt, 0, none⟩)] w fun e w' => (∃ a b, e = .returned (partV (151, a, b)) ∧ BoxT K gt (151, a, b) w') ∧ Grow w w' := by
  have bel := Below.refl w.heap.size w
  refine Calls.start 6 Try.func114 rfl rfl rfl ?_
  refine Cd.seq ?_
  refine Cd.region ?_
  refine Seq.box rfl rfl rfl rfl rfl ?_
  intro g2 w1 n2
  have e2 := Nat.le_trans bel.size n2.ge
  replace bel := bel.step n2.below
  have k2 := n2.blk
  refine Seq.box rfl rfl rfl rfl rfl ?_
  intro g3 w2 n3
  have e3 := Nat.le_trans bel.size n3.ge
  have l3 := Nat.lt_of_lt_of_le k2.lt n3.ge
  replace bel := bel.step n3.below
  replace k2 := k2.step n3.below
  have k3 := n3.blk
  refine Seq.val (Runs.assign rfl rfl) rfl rfl rfl ?_
  refine Seq.nil ?_
  refine Post.weak (F' := [(0, _), (1, _), (2, _), (3, _), (4, _)]) ⟨rfl, rfl, rfl, rfl, rfl, trivial⟩ ?_
  refine Post.then_ ?_
  refine Cd.seq ?_
  refine Cd.region ?_
  refine Seq.val (Runs.makeFunc (v := .func (.func 151) #[] #[.pointer (some ⟨g3, 0, none⟩), .pointer (some ⟨g2, 0, none⟩)]) rfl (show evL _ _ = some [] from rfl) (show evL _ _ = some [.pointer (some ⟨g3, 0, none⟩), .pointer (some ⟨g2, 0, none⟩)] from rfl) rfl) rfl rfl rfl ?_
  refine Seq.val (Runs.assign rfl rfl) rfl rfl rfl ?_
  refine Seq.nil ?_
  refine Post.weak (F' := [(0, _), (1, _), (2, _), (3, _), (4, _)]) ⟨rfl, rfl, rfl, rfl, rfl, trivial⟩ ?_
  refine Post.then_ ?_
  refine Cd.ret ?_
  refine Post.end1 rfl rfl (.inl rfl) ?_
  exact ⟨⟨_, _, rfl, k3, k2⟩, bel⟩
theorem eg_sub : ∀ args w, (callFunc 152 args).run Try.prog w = .ok (.enter 152 args) w := fun args w => run_enter Try.func152 (by kernel_rfl) rfl args w
theorem eg_cond : ∀ args w, (callFunc 151 args).run Try.prog w = .ok (.enter 151 args) w := fun args w => run_enter Try.func151 (by kernel_rfl) rfl args w
theorem eg_tname : ∀ args w, (callFunc 111 args).run Try.prog w = .ok (.enter 111 args) w := fun args w => run_enter Try.func111 (by kernel_rfl) rfl args w
theorem tname_any (K : Ctx) (hK : K.Ok) (h0 gt b1 d p : Nat) (op : Int) (nm : List Nat) (vE vT : Value) (w : World) (pw : PW K w p d false) (hg0 : K.g < h0) (hgt : h0 ≤ gt) (hh : h0 ≤ w.heap.size) (kt : Blk w gt 57 #[.int .i64 op, .string (strOf nm), vE, vT]) (kb1 : Blk w b1 99 #[.pointer (some ⟨K.g, 0, none⟩)]) :
    Calls Try.prog 111 #[.pointer (some ⟨b1, 0, none⟩), .pointer (some ⟨gt, 0, none⟩)] w (PRh K h0 w d (nameP K.ws p) fun x _ W' => Kp w W' ∧ Blk W' gt 57 #[.int .i64 op, .string (strOf x), vE, vT]) := by
  have hle := hK.le
  have bel := Fz.refl w.heap.size K.g w
  have k1 := kb1
  have hcl := name_any K hK p d w pw
  have hgl := kt.lt
  have hpl := pw.blk.lt
  refine Calls.start 5 Try.func111 rfl rfl rfl ?_
  refine Cd.region ?_
  refine Seq.val (Runs.loadB rfl rfl Try.underlying99 rfl k1 rfl) rfl rfl rfl ?_
  rcases Rs.ok_or (nameP_ne K.ws p) with ⟨q, ov, hr⟩ | ⟨x, q, hr⟩
  · rw [hr] at hcl
    refine Seq.callB (Enters.func rfl rfl rfl (run_enter Try.func112 (by kernel_rfl) rfl)) rfl hcl ?_
    rintro e w6 ⟨hf, rfl, d6, hp6⟩
    refine ⟨_, rfl, fun a ha => ⟨ha.defers, ?_⟩⟩
    rw [hr]
    exact ⟨hf.less hh, rfl, d6, hp6⟩
  rw [hr] at hcl ⊢
  refine Seq.call (Enters.func rfl rfl rfl (run_enter Try.func112 (by kernel_rfl) rfl)) rfl rfl rfl (hcl) ?_
  rintro e wq ⟨hf, v6, rfl, pwq, rfl⟩
  refine ⟨_, rfl, ?_⟩
  clear bel k1
  have bel : Fz h0 K.g w wq := hf.less hh
  have kp := (Kp.refl w).fz pw.blk hf
  have k2 := kt.fz hf (by omega)
  have k99 := pwq.blk
  have e2 : h0 ≤ gt := hgt
  have loc : Fz h0 K.g wq wq := Fz.refl _ _ _
  refine Seq.val (Runs.fieldB 1 rfl rfl Try.underlying57 rfl (by kernel_rfl)) rfl rfl rfl ?_
  refine Seq.store1 rfl rfl rfl (by kernel_rfl) rfl rfl k2 rfl rfl rfl ?_
  intro w1 pw1
  replace bel := bel.put k2 pw1 e2
  replace kp := kp.put k2 pw1 e2
  replace k99 := k99.put pw1 (by omega)
  replace loc := loc.put k2 pw1 e2
  replace k2 := pw1.blk
  refine Seq.nil ?_
  refine Post.weak (F' := [(0, _), (1, _)]) ⟨rfl, rfl, trivial⟩ ?_
  refine Post.end0 rfl (.inr rfl) ?_
  exact ⟨bel, _, rfl, ⟨k99, pwq.rd.below (loc.below (by omega) hle), pwq.p_le, pwq.d_le⟩, kp, k2⟩
def HasT (K : Ctx) (T0 : Nat → Nat → Rs Tm) : Prop := ∀ p d W, PW K W p d false → T0 p d ≠ .out → Calls Try.prog 66 #[.pointer (some ⟨K.g, 0, none⟩)] W (PR K W d (T0 p d) (okT W))
theorem run_build_T1 (w : World) : (Instr.build 57 #[(0, .int .i64 1)]).run Try.prog w = .ok (.agg #[.int .i64 1, .string (strOf []), .slice none 0 0, .slice none 0 0]) w := by kernel_rfl
theorem PRh.monoR {α : Type} {K : Ctx} {h d : Nat} {w w' : World} {r : Rs α} {ok1 ok2 : α → Value → World → Prop} {e : Ending} (hr : PRh K h w d r ok1 e w') (hm : ∀ a p v w', r = .ok a p → ok1 a v w' → ok2 a v w') : PRh K h w d r ok2 e w' := by
  refine ⟨hr.1, ?_⟩
  cases r with
  | out => exact hr.2
  | bad p o => exact hr.2
  | ok a p => obtain ⟨v, h1, h2, h3⟩ := hr.2; exact ⟨v, h1, h2, hm _ _ _ _ rfl h3⟩
theorem nameP_ok {K : Ctx} (hK : K.Ok) {p q : Nat} {x : List Nat} (h : nameP K.ws p = .ok x q) : (∀ c ∈ x, c < 256) ∧ x.length ≤ 4000 := by
  obtain ⟨a1, a2, a3, a4, a5⟩ := hK.at_ p
  obtain ⟨b1, b2, b3⟩ := K.at_kind p
  unfold nameP at h
  split at h
  · injection h with h
    rw [← h, ← b2]
    exact ⟨a3, a4⟩
  · cases h
theorem PRh.map {α β : Type} {K : Ctx} {h d : Nat} {w w' : World} {r : Rs α} {f : α → β} {ok1 : α → Value → World → Prop} {ok2 : β → Value → World → Prop} {e : Ending} (hr : PRh K h w d r ok1 e w') (hm : ∀ a v w', ok1 a v w' → ok2 (f a) v w') : PRh K h w d (r.map f) ok2 e w' := by
  refine ⟨hr.1, ?_⟩
  cases r with
  | out => exact hr.2
  | bad p o => exact hr.2
  | ok a p => obtain ⟨v, h1, h2, h3⟩ := hr.2; exact ⟨v, h1, h2, hm _ _ _ h3⟩
theorem term_any (K : Ctx) (hK : K.Ok) (E0 : Nat → Nat → Rs Ex) (T0 : Nat → Nat → Rs Tm) (hE : HasE K E0) (hT : HasT K T0) (p d : Nat) (w : World) (pw : PW K w p d false) (hne : termP K.ws E0 T0 p d ≠ .out) :
    Calls Try.prog 66 #[.pointer (some ⟨K.g, 0, none⟩)] w (PR K w d (termP K.ws E0 T0 p d) (okT w)) := by
  have bel := Fz.refl w.heap.size K.g w
  have k99 := pw.blk
  have e99 : K.g = K.g := rfl
  have hlt := pw.blk.lt
  have hlen := hK.len
  have hle := hK.le
  have hpl := pw.p_le
  obtain ⟨a1, a2, a3, a4, a5⟩ := hK.at_ p
  obtain ⟨b1, b2, b3⟩ := K.at_kind p
  have hw := fun W h => word_any K hK p d false W h
  unfold wdV at hw
  obtain ⟨op, hop⟩ : ∃ op, op = (termsW (K.at_ p).text).1 := ⟨_, rfl⟩
  obtain ⟨ne, hnE⟩ : ∃ ne, ne = (termsW (K.at_ p).text).2.1 := ⟨_, rfl⟩
  obtain ⟨ns, hnS⟩ : ∃ ns, ns = (termsW (K.at_ p).text).2.2 := ⟨_, rfl⟩
  have hq : termP K.ws E0 T0 p d = if (K.at_ p).kind ≠ 3 then .bad p false else if (K.at_ p).text = zeroW then .ok (.mk 1 [] [] []) (p + 1)
      else if (K.at_ p).text = oneW then (withinP K.ws [fun p _ => nameP K.ws p] (p + 1) d).bind fun xs p => .ok (.mk 2 (xs.getD 0 []) [] []) p
      else if op = 0 then .bad p false else (withinP K.ws (onesP E0 T0 ne ns) (p + 1) d).bind fun xs p => .ok (.mk op [] (exprsOf xs) (termsOf2 xs)) p := by
    rw [b1, hop, hnE, hnS, b2]
    unfold termP
    rfl
  have hbd : ne ≤ 1 ∧ ns ≤ 2 ∧ I64 op := by
    rw [hop, hnE, hnS]
    have : ∀ t, (termsW t).2.1 ≤ 1 ∧ (termsW t).2.2 ≤ 2 ∧ I64 (termsW t).1 := fun t => by
      unfold termsW
      repeat' split
      all_goals exact ⟨by decide, by decide, by unfold I64; decide⟩
    exact this _
  have hp : (K.at_ p).kind ≠ -1 → p + 1 ≤ K.ws.length := fun hk => by
    rcases Nat.lt_or_ge p K.ws.length with h | h
    · exact h
    · exact absurd (by unfold Ctx.at_; rw [List.getD_eq_getElem?_getD, List.getElem?_eq_none h]; rfl) hk
  have hterms := fun W => terms_any (K.at_ p).text W a3
  rw [← hop, ← hnE, ← hnS] at hterms
  refine Calls.start 85 Try.func66 rfl rfl rfl ?_
  refine Cd.seq ?_
  refine Cd.region ?_
  refine Seq.box rfl rfl rfl rfl rfl ?_
  intro g1 w1 n1
  have e1 := Nat.le_trans bel.size n1.ge
  have l1 := Nat.lt_of_lt_of_le k99.lt n1.ge
  replace bel := bel.step n1.below
  replace k99 := k99.step n1.below
  have k1 := n1.blk
  refine Seq.alloc rfl (run_zero zero_api_Term) rfl rfl rfl ?_
  intro g2 w2 n2
  have e2 := Nat.le_trans bel.size n2.ge
  have l2 := Nat.lt_of_lt_of_le k1.lt n2.ge
  replace bel := bel.step n2.below
  replace k99 := k99.step n2.below
  replace k1 := k1.step n2.below
  have k2 := n2.blk
  refine Seq.nil ?_
  refine Post.weak (F' := [(0, _), (1, _), (2, _)]) ⟨rfl, rfl, rfl, trivial⟩ ?_
  refine Post.then_ ?_
  refine Cd.seq ?_
  refine Cd.region ?_
  refine Seq.val (Runs.loadB rfl rfl Try.underlying99 rfl k1 rfl) rfl rfl rfl ?_
  refine Seq.call (Enters.func rfl rfl rfl (run_enter Try.func108 (by kernel_rfl) rfl)) rfl rfl rfl (hw _ (pw.to hle bel k99)) ?_
  rintro e w5 ⟨rfl, hb5⟩
  refine ⟨_, rfl, ?_⟩
  replace bel := bel.step hb5
  replace k99 := k99.step hb5
  replace k1 := k1.step hb5
  replace k2 := k2.step hb5
  refine Seq.alloc rfl (run_zero zero_lex_Word) rfl rfl rfl ?_
  intro g3 w3 n3
  have e3 := Nat.le_trans bel.size n3.ge
  have l3 := Nat.lt_of_lt_of_le k2.lt n3.ge
  replace bel := bel.step n3.below
  replace k99 := k99.step n3.below
  replace k1 := k1.step n3.below
  replace k2 := k2.step n3.below
  have k3 := n3.blk
  refine Seq.storeN rfl rfl rfl rfl (m := 4) (by kernel_rfl) rfl (by repeat' first | exact trivial | apply And.intro | rfl | assumption) k3 (by simp [Value.cells]) rfl rfl ?_
  intro w4 pw4
  replace bel := bel.put k3 pw4 e3
  replace k99 := k99.put pw4 (by omega)
  replace k1 := k1.put pw4 (by omega)
  replace k2 := k2.put pw4 (by omega)
  replace k3 := pw4.blk
  refine Seq.nil ?_
  refine Post.weak (F' := [(0, _), (1, _), (2, _), (3, _)]) ⟨rfl, rfl, rfl, rfl, trivial⟩ ?_
  refine Post.then_ ?_
  refine Cd.seq ?_
  refine Cd.seq ?_
  refine Cd.region ?_
  refine Seq.val (Runs.fieldB 0 rfl rfl Try.underlying50 rfl (by kernel_rfl)) rfl rfl rfl ?_
  refine Seq.val (Runs.loadB rfl rfl Try.underlying3 rfl k3 rfl) rfl rfl rfl ?_
  refine Seq.val (Runs.neqI rfl rfl rfl) rfl rfl rfl ?_
  refine Seq.nil ?_
  refine Post.weak (F' := [(0, _), (1, _), (2, _), (3, _), (13, _)]) ⟨rfl, rfl, rfl, rfl, rfl, trivial⟩ ?_
  refine Post.then_ ?_
  refine Cd.condD rfl (fun c1 => ?_) (fun c1 => ?_)
  · rw [if_pos c1] at hq
    refine Cd.region ?_
    refine Seq.val (Runs.loadB rfl rfl Try.underlying99 rfl k1 rfl) rfl rfl rfl ?_
    refine Seq.callB (Enters.func rfl rfl rfl (run_enter Try.func109 (by kernel_rfl) rfl)) rfl (fail_any K.g _) ?_
    rintro e w6 ⟨rfl, hb6⟩
    refine ⟨_, rfl, fun a ha => ⟨ha.defers, ?_⟩⟩
    rw [hq]
    exact ⟨bel.step hb6, rfl, d, pw.to hle (bel.step hb6) (k99.step hb6)⟩
  rw [if_neg c1] at hq
  have hp1 := hp (by intro h; exact c1 (by rw [h]; decide))
  refine Cd.skip ?_
  refine Post.then_ ?_
  refine Cd.seq ?_
  refine Cd.region ?_
  refine Seq.alloc rfl (run_zero zero_api_Term) rfl rfl rfl ?_
  intro g4 w5 n4
  have e4 := Nat.le_trans bel.size n4.ge
  have l4 := Nat.lt_of_lt_of_le k3.lt n4.ge
  replace bel := bel.step n4.below
  replace k99 := k99.step n4.below
  replace k1 := k1.step n4.below
  replace k2 := k2.step n4.below
  replace k3 := k3.step n4.below
  have k4 := n4.blk
  refine Seq.nil ?_
  refine Post.weak (F' := [(0, _), (1, _), (2, _), (3, _), (4, _), (13, _)]) ⟨rfl, rfl, rfl, rfl, rfl, rfl, trivial⟩ ?_
  refine Post.then_ ?_
  refine Cd.seq ?_
  refine Cd.seq ?_
  refine Cd.region ?_
  refine Seq.val (Runs.fieldB 1 rfl rfl Try.underlying50 rfl (by kernel_rfl)) rfl rfl rfl ?_
  refine Seq.val (Runs.loadB rfl rfl Try.underlying9 rfl k3 rfl) rfl rfl rfl ?_
  refine Seq.nil ?_
  refine Post.weak (F' := [(0, _), (1, _), (2, _), (3, _), (4, _), (13, _), (17, _)]) ⟨rfl, rfl, rfl, rfl, rfl, rfl, rfl, trivial⟩ ?_
  refine Post.then_ ?_
  refine Cd.block ?_
  refine Cd.seq ?_
  refine Cd.region ?_
  refine Seq.val (Runs.eqlL (b := zeroW) rfl rfl rfl a3 (by decide)) rfl rfl rfl ?_
  refine Seq.val (Runs.assign rfl rfl) rfl rfl rfl ?_
  refine Seq.nil ?_
  refine Post.weak (F' := [(0, _), (1, _), (2, _), (3, _), (4, _), (13, _), (17, _), (18, _)]) ⟨rfl, rfl, rfl, rfl, rfl, rfl, rfl, rfl, trivial⟩ ?_
  refine Post.then_ ?_
  refine Cd.condD rfl (fun c2 => ?_) (fun c2 => ?_)
  · rw [if_pos c2] at hq
    refine Cd.seq ?_
    refine Cd.region ?_
    refine Seq.val (Runs.loadB rfl rfl Try.underlying99 rfl k1 rfl) rfl rfl rfl ?_
    refine Seq.val (Runs.nilCheck rfl rfl) rfl rfl rfl ?_
    refine Seq.val (Runs.fieldB 1 rfl rfl Try.underlying141 rfl (by kernel_rfl)) rfl rfl rfl ?_
    refine Seq.val (Runs.loadB rfl rfl Try.underlying3 rfl k99 rfl) rfl rfl rfl ?_
    refine Seq.val (Runs.addI rfl rfl rfl (by omega) (by omega)) rfl rfl rfl ?_
    refine Seq.val (Runs.nilCheck rfl rfl) rfl rfl rfl ?_
    refine Seq.val (Runs.fieldB 1 rfl rfl Try.underlying141 rfl (by kernel_rfl)) rfl rfl rfl ?_
    refine Seq.store1 rfl rfl rfl (by kernel_rfl) rfl rfl k99 rfl rfl rfl ?_
    intro w6 pw6
    replace bel := bel.put k99 pw6 e99
    replace k1 := k1.put pw6 (by omega)
    replace k2 := k2.put pw6 (by omega)
    replace k3 := k3.put pw6 (by omega)
    replace k4 := k4.put pw6 (by omega)
    replace k99 := pw6.blk
    refine Seq.nil ?_
    refine Post.weak (F' := [(0, _), (1, _), (2, _), (3, _), (4, _), (13, _), (17, _), (18, _)]) ⟨rfl, rfl, rfl, rfl, rfl, rfl, rfl, rfl, trivial⟩ ?_
    refine Post.then_ ?_
    refine Cd.seq ?_
    refine Cd.region ?_
    refine Seq.val (Runs.build rfl rfl (run_build_T1 _)) rfl rfl rfl ?_
    refine Seq.storeN rfl rfl rfl rfl (m := 4) (by kernel_rfl) rfl (by repeat' first | exact trivial | apply And.intro | rfl | assumption) k2 (by simp [Value.cells]) rfl rfl ?_
    intro w7 pw7
    replace bel := bel.put k2 pw7 e2
    replace k99 := k99.put pw7 (by omega)
    replace k1 := k1.put pw7 (by omega)
    replace k3 := k3.put pw7 (by omega)
    replace k4 := k4.put pw7 (by omega)
    replace k2 := pw7.blk
    refine Seq.nil ?_
    refine Post.weak (F' := [(0, _), (1, _), (2, _), (3, _), (4, _), (13, _), (17, _), (18, _)]) ⟨rfl, rfl, rfl, rfl, rfl, rfl, rfl, rfl, trivial⟩ ?_
    refine Post.then_ ?_
    refine Cd.ret ?_
    refine Post.block_ret ?_
    refine Post.then_ret ?_
    refine Post.endC rfl rfl k2 Try.underlying57 rfl (m := 4) (by kernel_rfl) rfl (.inl rfl) ?_
    rw [hq]
    exact ⟨bel, _, rfl, pw.next hle hp1 bel k99, fun _ => False, RepT.mk (es := []) (ts := []) (vs := []) (us := []) rfl rfl (by simp) (by simp) (by unfold I64; omega) (by simp) (by simp) (fun i e v h => by simp at h) (fun i e v h => by simp at h) (fun h => absurd rfl h) (fun h => absurd rfl h), fun b hb => hb.elim⟩
  rw [if_neg c2] at hq
  refine Cd.seq ?_
  refine Cd.region ?_
  refine Seq.val (Runs.eqlL (b := oneW) rfl rfl rfl a3 (by decide)) rfl rfl rfl ?_
  refine Seq.val (Runs.assign rfl rfl) rfl rfl rfl ?_
  refine Seq.nil ?_
  refine Post.weak (F' := [(0, _), (1, _), (2, _), (3, _), (4, _), (13, _), (17, _), (18, _), (28, _)]) ⟨rfl, rfl, rfl, rfl, rfl, rfl, rfl, rfl, rfl, trivial⟩ ?_
  refine Post.then_ ?_
  refine Cd.condD rfl (fun c3 => ?_) (fun c3 => ?_)
  · rw [if_pos c3] at hq
    refine Cd.seq ?_
    refine Cd.region ?_
    refine Seq.val (Runs.loadB rfl rfl Try.underlying99 rfl k1 rfl) rfl rfl rfl ?_
    refine Seq.val (Runs.nilCheck rfl rfl) rfl rfl rfl ?_
    refine Seq.val (Runs.fieldB 1 rfl rfl Try.underlying141 rfl (by kernel_rfl)) rfl rfl rfl ?_
    refine Seq.val (Runs.loadB rfl rfl Try.underlying3 rfl k99 rfl) rfl rfl rfl ?_
    refine Seq.val (Runs.addI rfl rfl rfl (by omega) (by omega)) rfl rfl rfl ?_
    refine Seq.val (Runs.nilCheck rfl rfl) rfl rfl rfl ?_
    refine Seq.val (Runs.fieldB 1 rfl rfl Try.underlying141 rfl (by kernel_rfl)) rfl rfl rfl ?_
    refine Seq.store1 rfl rfl rfl (by kernel_rfl) rfl rfl k99 rfl rfl rfl ?_
    intro w6 pw6
    replace bel := bel.put k99 pw6 e99
    replace k1 := k1.put pw6 (by omega)
    replace k2 := k2.put pw6 (by omega)
    replace k3 := k3.put pw6 (by omega)
    replace k4 := k4.put pw6 (by omega)
    replace k99 := pw6.blk
    refine Seq.nil ?_
    refine Post.weak (F' := [(0, _), (1, _), (2, _), (3, _), (4, _), (13, _), (17, _), (18, _), (28, _)]) ⟨rfl, rfl, rfl, rfl, rfl, rfl, rfl, rfl, rfl, trivial⟩ ?_
    refine Post.then_ ?_
    refine Cd.seq ?_
    refine Cd.region ?_
    refine Seq.val (Runs.fieldB 0 rfl rfl Try.underlying57 rfl (by kernel_rfl)) rfl rfl rfl ?_
    refine Seq.store1 rfl rfl rfl (by kernel_rfl) rfl rfl k4 rfl rfl rfl ?_
    intro w7 pw7
    replace bel := bel.put k4 pw7 e4
    replace k99 := k99.put pw7 (by omega)
    replace k1 := k1.put pw7 (by omega)
    replace k2 := k2.put pw7 (by omega)
    replace k3 := k3.put pw7 (by omega)
    replace k4 := pw7.blk
    refine Seq.nil ?_
    refine Post.weak (F' := [(0, _), (1, _), (2, _), (3, _), (4, _), (13, _), (17, _), (18, _), (28, _)]) ⟨rfl, rfl, rfl, rfl, rfl, rfl, rfl, rfl, rfl, trivial⟩ ?_
    refine Post.then_ ?_
    refine Cd.seq ?_
    refine Cd.region ?_
    refine Seq.val (Runs.loadB rfl rfl Try.underlying99 rfl k1 rfl) rfl rfl rfl ?_
    refine Seq.val (Runs.makeFunc (v := .func (.func 111) #[] #[.pointer (some ⟨g1, 0, none⟩), .pointer (some ⟨g4, 0, none⟩)]) rfl (show evL _ _ = some [] from rfl) (show evL _ _ = some [.pointer (some ⟨g1, 0, none⟩), .pointer (some ⟨g4, 0, none⟩)] from rfl) rfl) rfl rfl rfl ?_
    refine Seq.slice (vs := [_]) (s := 1) rfl rfl rfl Try.underlying146 (by kernel_rfl) (zero_func__) (by omega) (by omega) ⟨rfl, trivial⟩ rfl rfl rfl ?_
    intro g40 w8 n40
    have e40 := Nat.le_trans bel.size n40.ge
    have l40 := Nat.lt_of_lt_of_le k4.lt n40.ge
    replace bel := bel.step n40.below
    replace k99 := k99.step n40.below
    replace k1 := k1.step n40.below
    replace k2 := k2.step n40.below
    replace k3 := k3.step n40.below
    replace k4 := k4.step n40.below
    have k40 := n40.blk
    have pw8 : PW K w8 (p + 1) d false := ⟨by rw [Int.natCast_add]; exact k99, pw.rd.below (bel.below (by omega) hle), hp1, pw.d_le⟩
    obtain ⟨R, hR⟩ : ∃ R, R = withinP K.ws [fun p _ => nameP K.ws p] (p + 1) d := ⟨_, rfl⟩
    rw [← hR] at hq
    have hneR : R ≠ .out := Rs.bind_ne (by rw [← hq]; exact hne)
    have hgg4 : K.g < g4 := by omega
    have hwi := within_any K hK g4 [fun p _ => nameP K.ws p] [(111, [Value.pointer (some ⟨g1, 0, none⟩), Value.pointer (some ⟨g4, 0, none⟩)])] (some ⟨g40, 0, none⟩) 1
      (fun xs W => Kp w8 W ∧ Blk W g4 57 #[.int .i64 2, .string (strOf (xs.getD 0 [])), .slice none 0 0, .slice none 0 0] ∧ ∀ x ∈ xs, (∀ c ∈ x, c < 256) ∧ x.length ≤ 4000) (p + 1) d w8 pw8 (Nat.le_of_lt k4.lt) rfl (by simp)
      ⟨Kp.refl w8, k4, by simp⟩
      (fun xs W W' p d hM hp hf => ⟨hM.1.fz hp.blk hf, hM.2.1.fz hf (by omega), hM.2.2⟩)
      (fun xs W j f cp hM hj => by
        match j, hj with
        | 0, hj =>
          simp at hj
          obtain ⟨e1, e2⟩ := hj
          subst e1 e2
          refine ⟨_, rfl, ?_⟩
          have hb := (hM.1.blk k40).cell 0
          exact hb
        | j + 1, hj => simp at hj)
      (fun j f cp hj => by
        match j, hj with
        | 0, hj =>
          simp at hj
          obtain ⟨e1, e2⟩ := hj
          subst e1
          exact eg_tname
        | j + 1, hj => simp at hj)
      (fun j f cp one hj ho xs W p' hxl hpw hW hM hne1 => by
        match j, hj, ho, hxl with
        | 0, hj, ho, hxl =>
          simp at hj ho
          obtain ⟨e1, e2⟩ := hj
          subst e1 e2 ho
          have hx0 : xs = [] := List.eq_nil_of_length_eq_zero hxl
          subst hx0
          exact (tname_any K hK g4 g4 g1 (d + 1) p' 2 _ _ _ W hpw hgg4 (Nat.le_refl _) hW hM.2.1 (hM.1.blk k1)).mono fun e W' hq => hq.monoR fun a p v W' hr h => ⟨hM.1.trans h.1, h.2, fun x hx => by simp at hx; subst hx; exact nameP_ok hK hr⟩
        | j + 1, hj, _, _ => simp at hj)
      (by rw [← hR]; exact hneR)
    rw [← hR] at hwi
    rcases Rs.ok_or hneR with ⟨q, ov, hr⟩ | ⟨xs, q, hr⟩
    · rw [hr] at hwi hq
      refine Seq.callB (Enters.func rfl rfl rfl (run_enter Try.func110 (by kernel_rfl) rfl)) rfl hwi ?_
      rintro e w9 ⟨hf, rfl, d6, hp6⟩
      refine ⟨_, rfl, fun a ha => ⟨ha.defers, ?_⟩⟩
      rw [hq]
      exact ⟨bel.trans (hf.less (by omega)), rfl, d6, hp6⟩
    have hxl := withinP_len (hR.symm.trans hr)
    obtain ⟨x, rfl⟩ : ∃ x, xs = [x] := by
      match xs, hxl with
      | [x], _ => exact ⟨x, rfl⟩
    rw [hr] at hwi hq
    replace hq : termP K.ws E0 T0 p d = .ok (.mk 2 x [] []) q := hq
    refine Seq.call (Enters.func rfl rfl rfl (run_enter Try.func110 (by kernel_rfl) rfl)) rfl rfl rfl (hwi) ?_
    rintro e wq ⟨hf, v6, rfl, pwq, kpq, k4q, hxb⟩
    have hxb := hxb x (by simp)
    refine ⟨_, rfl, ?_⟩
    have k2q : Blk wq g2 57 #[.int .i64 0, .string { data := #[] }, .slice none 0 0, .slice none 0 0] := by
      have h2 : Blk w8 g2 57 #[.int .i64 0, .string { data := #[] }, .slice none 0 0, .slice none 0 0] := k2
      have h1 := hf.block g2 (by omega) (by omega)
      unfold Blk at h2 ⊢
      rw [h1]
      exact h2
    have belq : Fz w.heap.size K.g w wq := bel.trans (hf.less (by omega))
    clear bel k1 k2 k3 k4 k40 k99
    have bel := belq
    have k2 := k2q
    have k4 : Blk wq g4 57 #[.int .i64 2, .string (strOf x), .slice none 0 0, .slice none 0 0] := k4q
    have hlt2 := k2.lt
    refine Seq.nil ?_
    refine Post.weak (F' := [(0, _), (1, _), (2, _), (3, _), (4, _), (13, _), (17, _), (18, _), (28, _)]) ⟨rfl, rfl, rfl, rfl, rfl, rfl, rfl, rfl, rfl, trivial⟩ ?_
    refine Post.then_ ?_
    refine Cd.seq ?_
    refine Cd.region ?_
    refine Seq.val (Runs.loadW rfl rfl Try.underlying57 rfl k4 (m := 4) (by kernel_rfl) rfl) rfl rfl rfl ?_
    refine Seq.storeN rfl rfl rfl rfl (m := 4) (by kernel_rfl) rfl (by repeat' first | exact trivial | apply And.intro | rfl | assumption) k2 (by simp [Value.cells]) rfl rfl ?_
    intro w9 pw9
    replace bel := bel.put k2 pw9 e2
    replace k4 := k4.put pw9 (by omega)
    replace k2 := pw9.blk
    refine Seq.nil ?_
    refine Post.weak (F' := [(0, _), (1, _), (2, _), (3, _), (4, _), (13, _), (17, _), (18, _), (28, _)]) ⟨rfl, rfl, rfl, rfl, rfl, rfl, rfl, rfl, rfl, trivial⟩ ?_
    refine Post.then_ ?_
    refine Cd.ret ?_
    refine Post.block_ret ?_
    refine Post.then_ret ?_
    refine Post.endC rfl rfl k2 Try.underlying57 rfl (m := 4) (by kernel_rfl) rfl (.inl rfl) ?_
    rw [hq]
    exact ⟨bel, _, rfl, ⟨pwq.blk.put pw9 (by omega), pw.rd.below (bel.below (by omega) hle), pwq.p_le, pwq.d_le⟩, fun _ => False, RepT.mk (es := []) (ts := []) (vs := []) (us := []) rfl rfl (by simp) (by simp) (by unfold I64; omega) hxb.1 (by have := hxb.2; omega) (fun i e v h => by simp at h) (fun i e v h => by simp at h) (fun h => absurd rfl h) (fun h => absurd rfl h), fun b hb => hb.elim⟩
  rw [if_neg c3] at hq
  refine Cd.skip ?_
  refine Post.block_normal ?_
  refine Post.then_ ?_
  refine Cd.seq ?_
  refine Cd.region ?_
  refine Seq.val (Runs.fieldB 1 rfl rfl Try.underlying50 rfl (by kernel_rfl)) rfl rfl rfl ?_
  refine Seq.val (Runs.loadB rfl rfl Try.underlying9 rfl k3 rfl) rfl rfl rfl ?_
  refine Seq.call (Enters.func rfl rfl rfl (run_enter Try.func113 (by kernel_rfl) rfl)) rfl rfl rfl (hterms _) ?_
  rintro e w6 ⟨rfl, hb6⟩
  refine ⟨_, rfl, ?_⟩
  replace bel := bel.step hb6
  replace k99 := k99.step hb6
  replace k1 := k1.step hb6
  replace k2 := k2.step hb6
  replace k3 := k3.step hb6
  replace k4 := k4.step hb6
  refine Seq.val (Runs.move rfl rfl) rfl rfl rfl ?_
  refine Seq.val (Runs.extract rfl rfl rfl) rfl rfl rfl ?_
  refine Seq.val (Runs.extract rfl rfl rfl) rfl rfl rfl ?_
  refine Seq.val (Runs.extract rfl rfl rfl) rfl rfl rfl ?_
  refine Seq.val (Runs.assign rfl rfl) rfl rfl rfl ?_
  refine Seq.val (Runs.assign rfl rfl) rfl rfl rfl ?_
  refine Seq.val (Runs.assign rfl rfl) rfl rfl rfl ?_
  refine Seq.nil ?_
  refine Post.weak (F' := [(0, _), (1, _), (2, _), (3, _), (4, _), (5, _), (6, _), (7, _), (13, _), (17, _), (18, _), (28, _)]) ⟨rfl, rfl, rfl, rfl, rfl, rfl, rfl, rfl, rfl, rfl, rfl, rfl, trivial⟩ ?_
  refine Post.then_ ?_
  refine Cd.seq ?_
  refine Cd.seq ?_
  refine Cd.region ?_
  refine Seq.val (Runs.move rfl rfl) rfl rfl rfl ?_
  refine Seq.val (Runs.eqlI rfl rfl rfl) rfl rfl rfl ?_
  refine Seq.nil ?_
  refine Post.weak (F' := [(0, _), (1, _), (2, _), (3, _), (4, _), (5, _), (6, _), (7, _), (13, _), (17, _), (18, _), (28, _), (51, _)]) ⟨rfl, rfl, rfl, rfl, rfl, rfl, rfl, rfl, rfl, rfl, rfl, rfl, rfl, trivial⟩ ?_
  refine Post.then_ ?_
  refine Cd.condD rfl (fun c4 => ?_) (fun c4 => ?_)
  · rw [if_pos c4] at hq
    refine Cd.region ?_
    refine Seq.val (Runs.loadB rfl rfl Try.underlying99 rfl k1 rfl) rfl rfl rfl ?_
    refine Seq.callB (Enters.func rfl rfl rfl (run_enter Try.func109 (by kernel_rfl) rfl)) rfl (fail_any K.g _) ?_
    rintro e w7 ⟨rfl, hb7⟩
    refine ⟨_, rfl, fun a ha => ⟨ha.defers, ?_⟩⟩
    rw [hq]
    exact ⟨bel.step hb7, rfl, d, pw.to hle (bel.step hb7) (k99.step hb7)⟩
  rw [if_neg c4] at hq
  refine Cd.skip ?_
  refine Post.then_ ?_
  refine Cd.seq ?_
  refine Cd.region ?_
  refine Seq.val (Runs.loadB rfl rfl Try.underlying99 rfl k1 rfl) rfl rfl rfl ?_
  refine Seq.val (Runs.nilCheck rfl rfl) rfl rfl rfl ?_
  refine Seq.val (Runs.fieldB 1 rfl rfl Try.underlying141 rfl (by kernel_rfl)) rfl rfl rfl ?_
  refine Seq.val (Runs.loadB rfl rfl Try.underlying3 rfl k99 rfl) rfl rfl rfl ?_
  refine Seq.val (Runs.addI rfl rfl rfl (by omega) (by omega)) rfl rfl rfl ?_
  refine Seq.val (Runs.nilCheck rfl rfl) rfl rfl rfl ?_
  refine Seq.val (Runs.fieldB 1 rfl rfl Try.underlying141 rfl (by kernel_rfl)) rfl rfl rfl ?_
  refine Seq.store1 rfl rfl rfl (by kernel_rfl) rfl rfl k99 rfl rfl rfl ?_
  intro w6 pw6
  replace bel := bel.put k99 pw6 e99
  replace k1 := k1.put pw6 (by omega)
  replace k2 := k2.put pw6 (by omega)
  replace k3 := k3.put pw6 (by omega)
  replace k4 := k4.put pw6 (by omega)
  replace k99 := pw6.blk
  refine Seq.nil ?_
  refine Post.weak (F' := [(0, _), (1, _), (2, _), (3, _), (4, _), (5, _), (6, _), (7, _), (13, _), (17, _), (18, _), (28, _), (51, _)]) ⟨rfl, rfl, rfl, rfl, rfl, rfl, rfl, rfl, rfl, rfl, rfl, rfl, rfl, trivial⟩ ?_
  refine Post.then_ ?_
  refine Cd.seq ?_
  refine Cd.region ?_
  refine Seq.val (Runs.move rfl rfl) rfl rfl rfl ?_
  refine Seq.val (Runs.fieldB 0 rfl rfl Try.underlying57 rfl (by kernel_rfl)) rfl rfl rfl ?_
  refine Seq.store1 rfl rfl rfl (by kernel_rfl) rfl rfl k4 rfl rfl rfl ?_
  intro w7 pw7
  replace bel := bel.put k4 pw7 e4
  replace k99 := k99.put pw7 (by omega)
  replace k1 := k1.put pw7 (by omega)
  replace k2 := k2.put pw7 (by omega)
  replace k3 := k3.put pw7 (by omega)
  replace k4 := pw7.blk
  refine Seq.nil ?_
  refine Post.weak (F' := [(0, _), (1, _), (2, _), (3, _), (4, _), (5, _), (6, _), (7, _), (13, _), (17, _), (18, _), (28, _), (51, _)]) ⟨rfl, rfl, rfl, rfl, rfl, rfl, rfl, rfl, rfl, rfl, rfl, rfl, rfl, trivial⟩ ?_
  refine Post.then_ ?_
  refine Cd.seq ?_
  refine Cd.region ?_
  refine Seq.val (Runs.assign rfl rfl) rfl rfl rfl ?_
  refine Seq.nil ?_
  refine Post.weak (F' := [(0, _), (1, _), (2, _), (3, _), (4, _), (5, _), (6, _), (7, _), (8, _), (13, _), (17, _), (18, _), (28, _), (51, _)]) ⟨rfl, rfl, rfl, rfl, rfl, rfl, rfl, rfl, rfl, rfl, rfl, rfl, rfl, rfl, trivial⟩ ?_
  refine Post.then_ ?_
  refine Cd.seq ?_
  refine Cd.seq ?_
  refine Cd.region ?_
  refine Seq.val (Runs.move rfl rfl) rfl rfl rfl ?_
  refine Seq.val (Runs.move rfl rfl) rfl rfl rfl ?_
  refine Seq.nil ?_
  refine Post.weak (F' := [(0, _), (1, _), (2, _), (3, _), (4, _), (5, _), (6, _), (7, _), (8, _), (13, _), (17, _), (18, _), (28, _), (51, _), (63, _), (64, _)]) ⟨rfl, rfl, rfl, rfl, rfl, rfl, rfl, rfl, rfl, rfl, rfl, rfl, rfl, rfl, rfl, rfl, trivial⟩ ?_
  refine Post.then_ ?_
  refine Cd.block ?_
  have pwl : PW K w7 (p + 1) d false := ⟨by rw [Int.natCast_add]; exact k99, pw.rd.below (bel.below (by omega) hle), hp1, pw.d_le⟩
  have k1o := k1
  have k2o := k2
  have k4o := k4
  have bel0 := bel
  have hs0 := bel.size
  have hk4l := k4.lt
  replace bel := Below.refl w7.heap.size w7
  have own := Own.nil w7 w7.heap.size 1 1
  have bx : BoxL K g4 [] w7 := fun x hx => by simp at hx
  refine Cd.loop (σ := Nat × Value × List (Nat × Nat × Nat)) (fun s => [(1, .pointer (some ⟨g1, 0, none⟩)), (2, .pointer (some ⟨g2, 0, none⟩)), (4, .pointer (some ⟨g4, 0, none⟩)), (7, .int .i64 (ns : Int)), (8, s.2.1), (63, .int .i64 (ne : Int)), (64, .int .i64 (s.1 : Int))])
    (fun s wr => s.1 ≤ ne ∧ Below w7.heap.size w7 wr ∧ s.2.2.map (·.1) = List.replicate s.1 151 ∧ BoxL K g4 s.2.2 wr ∧ Own wr w7.heap.size 1 1 s.2.1 (s.1) (s.2.2.map partV)) (fun s => ne - s.1) (0, .slice none 0 0, []) ⟨Nat.zero_le _, bel, rfl, bx, own⟩ ⟨rfl, rfl, rfl, rfl, rfl, rfl, rfl, trivial⟩ ?_
  clear k1 k2 k3 k4 k99
  clear bel own bx
  rintro ⟨i, v, L⟩ wr ⟨hi, bel, hL, bx, own⟩
  dsimp only at hi hL bx own ⊢
  have k1 := k1o.step bel
  refine Cd.seq ?_
  refine Cd.region ?_
  refine Seq.val (Runs.lss rfl rfl rfl) rfl rfl rfl ?_
  refine Seq.nil ?_
  refine Post.weak (F' := [(1, _), (2, _), (4, _), (7, _), (8, _), (63, _), (64, _), (65, _)]) ⟨rfl, rfl, rfl, rfl, rfl, rfl, rfl, rfl, trivial⟩ ?_
  refine Post.then_ ?_
  refine Cd.seq ?_
  refine Cd.condD rfl (fun hc => ?_) (fun hc => ?_)
  · skip
    refine Cd.skip ?_
    refine Post.then_ ?_
    refine Cd.seq ?_
    refine Cd.block ?_
    refine Cd.region ?_
    refine Seq.val (Runs.move rfl rfl) rfl rfl rfl ?_
    refine Seq.val (Runs.loadB rfl rfl Try.underlying99 rfl k1 rfl) rfl rfl rfl ?_
    refine Seq.call (Enters.func rfl rfl rfl (run_enter Try.func114 (by kernel_rfl) rfl)) rfl rfl rfl (condV_any K g4 _) ?_
    rintro e w8 ⟨⟨a, b, rfl, hbx⟩, hb8⟩
    refine ⟨_, rfl, ?_⟩
    replace bel := bel.step hb8
    replace own := own.step hb8
    replace bx := bx.step hb8
    replace k1 := k1.step hb8
    replace bx := bx.snoc hbx
    refine Seq.slice (vs := [_]) (s := 1) rfl rfl rfl Try.underlying146 (by kernel_rfl) (zero_func__) (by omega) (by omega) ⟨rfl, trivial⟩ rfl rfl rfl ?_
    intro g69 w8 n69
    have e69 := Nat.le_trans bel.size n69.ge
    have l69 := Nat.lt_of_lt_of_le k1.lt n69.ge
    replace bel := bel.step n69.below
    replace own := own.step n69.below
    replace bx := bx.step n69.below
    replace k1 := k1.step n69.below
    have k69 := n69.blk
    refine Seq.append rfl rfl rfl Try.underlying146 (by kernel_rfl) zero_func__ rfl (by decide) (b := 8) (by kernel_rfl) own (Reads.blk k69 1 rfl) (by intro x hx; simp [flatC, Value.cells, partV] at hx; rw [hx]; rfl) bel.size (by simp only [maxLen]; omega) (by omega) rfl rfl rfl ?_
    intro v2 wa own2 ha
    replace bx := bx.app own ha
    replace bel := bel.trans ha.below
    clear own k1 k69
    refine Seq.val (Runs.assign rfl rfl) rfl rfl rfl ?_
    refine Seq.nil ?_
    refine Post.weak (F' := [(1, _), (2, _), (4, _), (7, _), (8, _), (63, _), (64, _), (65, _)]) ⟨rfl, rfl, rfl, rfl, rfl, rfl, rfl, rfl, trivial⟩ ?_
    refine Post.block_normal ?_
    refine Post.then_ ?_
    refine Cd.region ?_
    refine Seq.val (Runs.addI rfl rfl rfl (by omega) (by omega)) rfl rfl rfl ?_
    refine Seq.val (Runs.move rfl rfl) rfl rfl rfl ?_
    refine Seq.nil ?_
    refine Post.weak (F' := [(1, _), (2, _), (4, _), (7, _), (8, _), (63, _), (64, _), (65, _)]) ⟨rfl, rfl, rfl, rfl, rfl, rfl, rfl, rfl, trivial⟩ ?_
    refine Post.round (i + 1, v2, L ++ [(151, a, b)]) ⟨rfl, rfl, rfl, rfl, rfl, rfl, rfl, trivial⟩ ⟨by dsimp only; omega, bel, ?_, bx, ?_⟩ (by dsimp only; omega)
    · dsimp only
      rw [List.map_append, hL, List.replicate_succ']
      rfl
    · dsimp only
      rw [List.map_append]
      exact own2
  obtain rfl : i = ne := by omega
  refine Cd.exit ?_
  refine Post.then_exit ?_
  refine Post.round_exit ?_
  refine Post.block_exit ?_
  refine Post.then_ ?_
  refine Cd.seq ?_
  refine Cd.seq ?_
  refine Cd.region ?_
  refine Seq.val (Runs.move rfl rfl) rfl rfl rfl ?_
  refine Seq.val (Runs.move rfl rfl) rfl rfl rfl ?_
  refine Seq.nil ?_
  refine Post.weak (F' := [(1, _), (2, _), (4, _), (7, _), (8, _), (63, _), (64, _), (65, _), (72, _), (73, _)]) ⟨rfl, rfl, rfl, rfl, rfl, rfl, rfl, rfl, rfl, rfl, trivial⟩ ?_
  refine Post.then_ ?_
  refine Cd.block ?_
  refine Cd.loop (σ := Nat × Value × List (Nat × Nat × Nat)) (fun s => [(1, .pointer (some ⟨g1, 0, none⟩)), (2, .pointer (some ⟨g2, 0, none⟩)), (4, .pointer (some ⟨g4, 0, none⟩)), (7, .int .i64 (ns : Int)), (8, s.2.1), (72, .int .i64 (ns : Int)), (73, .int .i64 (s.1 : Int))])
    (fun s wr => s.1 ≤ ns ∧ Below w7.heap.size w7 wr ∧ s.2.2.map (·.1) = List.replicate i 151 ++ List.replicate s.1 152 ∧ BoxL K g4 s.2.2 wr ∧ Own wr w7.heap.size 1 1 s.2.1 (i + s.1) (s.2.2.map partV)) (fun s => ns - s.1) (0, v, L) ⟨Nat.zero_le _, bel, by simpa using hL, bx, own⟩ ⟨rfl, rfl, rfl, rfl, rfl, rfl, rfl, trivial⟩ ?_
  clear k1
  clear bel own bx
  rintro ⟨j, v, L⟩ wr ⟨hj, bel, hL, bx, own⟩
  dsimp only at hj hL bx own ⊢
  have k1 := k1o.step bel
  refine Cd.seq ?_
  refine Cd.region ?_
  refine Seq.val (Runs.lss rfl rfl rfl) rfl rfl rfl ?_
  refine Seq.nil ?_
  refine Post.weak (F' := [(1, _), (2, _), (4, _), (7, _), (8, _), (72, _), (73, _), (74, _)]) ⟨rfl, rfl, rfl, rfl, rfl, rfl, rfl, rfl, trivial⟩ ?_
  refine Post.then_ ?_
  refine Cd.seq ?_
  refine Cd.condD rfl (fun hc => ?_) (fun hc => ?_)
  · skip
    refine Cd.skip ?_
    refine Post.then_ ?_
    refine Cd.seq ?_
    refine Cd.block ?_
    refine Cd.region ?_
    refine Seq.val (Runs.move rfl rfl) rfl rfl rfl ?_
    refine Seq.val (Runs.loadB rfl rfl Try.underlying99 rfl k1 rfl) rfl rfl rfl ?_
    refine Seq.call (Enters.func rfl rfl rfl (run_enter Try.func115 (by kernel_rfl) rfl)) rfl rfl rfl (subV_any K g4 _) ?_
    rintro e w8 ⟨⟨a, b, rfl, hbx⟩, hb8⟩
    refine ⟨_, rfl, ?_⟩
    replace bel := bel.step hb8
    replace own := own.step hb8
    replace bx := bx.step hb8
    replace k1 := k1.step hb8
    replace bx := bx.snoc hbx
    refine Seq.slice (vs := [_]) (s := 1) rfl rfl rfl Try.underlying146 (by kernel_rfl) (zero_func__) (by omega) (by omega) ⟨rfl, trivial⟩ rfl rfl rfl ?_
    intro g78 w8 n78
    have e78 := Nat.le_trans bel.size n78.ge
    have l78 := Nat.lt_of_lt_of_le k1.lt n78.ge
    replace bel := bel.step n78.below
    replace own := own.step n78.below
    replace bx := bx.step n78.below
    replace k1 := k1.step n78.below
    have k78 := n78.blk
    refine Seq.append rfl rfl rfl Try.underlying146 (by kernel_rfl) zero_func__ rfl (by decide) (b := 8) (by kernel_rfl) own (Reads.blk k78 1 rfl) (by intro x hx; simp [flatC, Value.cells, partV] at hx; rw [hx]; rfl) bel.size (by simp only [maxLen]; omega) (by omega) rfl rfl rfl ?_
    intro v2 wa own2 ha
    replace bx := bx.app own ha
    replace bel := bel.trans ha.below
    clear own k1 k78
    refine Seq.val (Runs.assign rfl rfl) rfl rfl rfl ?_
    refine Seq.nil ?_
    refine Post.weak (F' := [(1, _), (2, _), (4, _), (7, _), (8, _), (72, _), (73, _), (74, _)]) ⟨rfl, rfl, rfl, rfl, rfl, rfl, rfl, rfl, trivial⟩ ?_
    refine Post.block_normal ?_
    refine Post.then_ ?_
    refine Cd.region ?_
    refine Seq.val (Runs.addI rfl rfl rfl (by omega) (by omega)) rfl rfl rfl ?_
    refine Seq.val (Runs.move rfl rfl) rfl rfl rfl ?_
    refine Seq.nil ?_
    refine Post.weak (F' := [(1, _), (2, _), (4, _), (7, _), (8, _), (72, _), (73, _), (74, _)]) ⟨rfl, rfl, rfl, rfl, rfl, rfl, rfl, rfl, trivial⟩ ?_
    refine Post.round (j + 1, v2, L ++ [(152, a, b)]) ⟨rfl, rfl, rfl, rfl, rfl, rfl, rfl, trivial⟩ ⟨by dsimp only; omega, bel, ?_, bx, ?_⟩ (by dsimp only; omega)
    · dsimp only
      rw [List.map_append, hL, List.replicate_succ', List.append_assoc]
      rfl
    · dsimp only
      rw [List.map_append]
      exact own2
  obtain rfl : j = ns := by omega
  refine Cd.exit ?_
  refine Post.then_exit ?_
  refine Post.round_exit ?_
  refine Post.block_exit ?_
  refine Post.then_ ?_
  refine Cd.seq ?_
  refine Cd.region ?_
  refine Seq.val (Runs.loadB rfl rfl Try.underlying99 rfl k1 rfl) rfl rfl rfl ?_
  refine Seq.val (Runs.move rfl rfl) rfl rfl rfl ?_
  have hsr := bel.size
  have pw9 := pwl.step hle bel
  have k4 := k4o.step bel
  have k2 := k2o.step bel
  have hgg4 : K.g < g4 := by omega
  obtain ⟨AP, cP, rfl, -⟩ := own.reads
  obtain ⟨R, hR⟩ : ∃ R, R = withinP K.ws (onesP E0 T0 i j) (p + 1) d := ⟨_, rfl⟩
  rw [← hR] at hq
  have hneR : R ≠ .out := Rs.bind_ne (by rw [← hq]; exact hne)
  obtain ⟨h1i, h2j, hop64⟩ := hbd
  have hLl : L.length = i + j := by
    have := congrArg List.length hL
    simpa using this
  have hol : (onesP E0 T0 i j).length = i + j := by unfold onesP; simp
  have hexl : ∀ xs : List Part, (exprsOf xs).length ≤ xs.length ∧ (termsOf2 xs).length ≤ xs.length := fun xs => ⟨List.length_filterMap_le _ _, List.length_filterMap_le _ _⟩
  have hfl : (L.map fun x => (x.1, [Value.pointer (some ⟨x.2.1, 0, none⟩), Value.pointer (some ⟨x.2.2, 0, none⟩)])).length = i + j := by rw [List.length_map, hLl]
  have hget : ∀ {q f : Nat} {cp : List Value}, (L.map fun x => (x.1, [Value.pointer (some ⟨x.2.1, 0, none⟩), Value.pointer (some ⟨x.2.2, 0, none⟩)]))[q]? = some (f, cp) → ∃ x, L[q]? = some x ∧ x ∈ L ∧ f = x.1 ∧ cp = [Value.pointer (some ⟨x.2.1, 0, none⟩), Value.pointer (some ⟨x.2.2, 0, none⟩)] := fun {q f cp} h => by
    rw [List.getElem?_map] at h
    cases hx : L[q]? with
    | none => rw [hx] at h; cases h
    | some x =>
      rw [hx] at h
      injection h with h
      injection h with e1 e2
      exact ⟨x, rfl, List.mem_of_getElem? hx, e1.symm, e2.symm⟩
  have hfid : ∀ {q : Nat} {x : Nat × Nat × Nat}, L[q]? = some x → (q < i ∧ x.1 = 151) ∨ (i ≤ q ∧ x.1 = 152) := fun {q x} hx => by
    have h1 : (L.map (·.1))[q]? = some x.1 := by rw [List.getElem?_map, hx]; rfl
    rw [hL] at h1
    rcases Nat.lt_or_ge q i with hqi | hqi
    · rw [List.getElem?_append_left (by simpa using hqi), List.getElem?_replicate, if_pos hqi] at h1
      injection h1 with h1
      exact .inl ⟨hqi, h1.symm⟩
    · rw [List.getElem?_append_right (by simpa using hqi), List.length_replicate] at h1
      have hlt := (List.getElem?_eq_some_iff.1 h1).1
      rw [List.length_replicate] at hlt
      rw [List.getElem?_replicate, if_pos hlt] at h1
      injection h1 with h1
      exact .inr ⟨hqi, h1.symm⟩
  have hone : ∀ {q : Nat} {one : Nat → Nat → Rs Part}, (onesP E0 T0 i j)[q]? = some one → (q < i → one = fun p d => (E0 p d).map .inl) ∧ (i ≤ q → one = fun p d => (T0 p d).map .inr) := fun {q one} h => by
    unfold onesP at h
    refine ⟨fun hqi => ?_, fun hqi => ?_⟩
    · rw [List.getElem?_append_left (by simpa using hqi), List.getElem?_replicate, if_pos hqi] at h
      injection h with h
      exact h.symm
    · rw [List.getElem?_append_right (by simpa using hqi), List.length_replicate] at h
      have hlt := (List.getElem?_eq_some_iff.1 h).1
      rw [List.length_replicate] at hlt
      rw [List.getElem?_replicate, if_pos hlt] at h
      injection h with h
      exact h.symm
  have hwi := within_any K hK g4 (onesP E0 T0 i j) (L.map fun x => (x.1, [Value.pointer (some ⟨x.2.1, 0, none⟩), Value.pointer (some ⟨x.2.2, 0, none⟩)])) AP cP
    (fun xs W => Kp wr W ∧ ∃ evs tvs vE vT S, Blk W g4 57 #[.int .i64 op, .string (strOf []), vE, vT] ∧ ArgQ W g4 g4 (exprsOf xs) (termsOf2 xs) evs tvs vE vT S) (p + 1) d wr pw9 (Nat.le_of_lt k4.lt) (by rw [hfl, hol]) (by rw [hol]; omega)
    ⟨Kp.refl wr, [], [], _, _, _, k4, ArgQ.nil wr g4 g4⟩
    (fun xs W W' p d hM hp hf => by
      obtain ⟨kp, evs, tvs, vE, vT, S, kt, aq⟩ := hM
      exact ⟨kp.fz hp.blk hf, evs, tvs, vE, vT, S, kt.fz hf (by omega), aq.fz hf hgg4⟩)
    (fun xs W q f cp hM hj => by
      obtain ⟨kp, -⟩ := hM
      obtain ⟨x, hx, hxm, rfl, rfl⟩ := hget hj
      obtain ⟨A', c', hv, hr⟩ := (kp.own own).reads
      injection hv with hv _ _
      subst hv
      have hql := (List.getElem?_eq_some_iff.1 hx).1
      obtain ⟨ad, hA, -, hc⟩ := hr.2 (by omega)
      exact ⟨ad, hA, hc q _ (by rw [List.getElem?_map, hx]; rfl)⟩)
    (fun q f cp hj => by
      obtain ⟨x, hx, hxm, rfl, rfl⟩ := hget hj
      rcases hfid hx with ⟨-, e⟩ | ⟨-, e⟩
      · rw [e]; exact eg_cond
      · rw [e]; exact eg_sub)
    (fun q f cp one hj ho xs W p' hxl hpw hW hM hne1 => by
      obtain ⟨x, hx, hxm, rfl, rfl⟩ := hget hj
      have hql := (List.getElem?_eq_some_iff.1 hx).1
      obtain ⟨o1, o2⟩ := hone ho
      obtain ⟨kp, evs, tvs, vE, vT, S, kt, aq⟩ := hM
      obtain ⟨bx1, bx2⟩ := bx x hxm
      obtain ⟨l1, l2⟩ := hexl xs
      rcases hfid hx with ⟨hqi, e⟩ | ⟨hqi, e⟩
      · have ho1 := o1 hqi
        subst ho1
        have hne2 : E0 p' (d + 1) ≠ .out := Rs.bind_ne hne1
        rw [e]
        exact (condC_any K hK g4 g4 x.2.1 x.2.2 (d + 1) p' op [] (exprsOf xs) (termsOf2 xs) evs tvs vE vT S E0 W hpw hgg4 (Nat.le_refl _) hW kt (kp.blk bx1) (kp.blk bx2) aq (by omega) (fun W' h1 _ => hE p' (d + 1) W' h1 hne2) hne2).mono fun e W' hq => hq.map fun a v W' h => ⟨kp.trans h.1, by
          have e1 : exprsOf (xs ++ [.inl a]) = exprsOf xs ++ [a] := by unfold exprsOf; rw [List.filterMap_append]; rfl
          have e2 : termsOf2 (xs ++ [.inl a]) = termsOf2 xs := by unfold termsOf2; rw [List.filterMap_append]; simp
          rw [e1, e2]
          exact h.2⟩
      · have ho2 := o2 hqi
        subst ho2
        have hne2 : T0 p' (d + 1) ≠ .out := Rs.bind_ne hne1
        rw [e]
        exact (subC_any K hK g4 g4 x.2.1 x.2.2 (d + 1) p' op [] (exprsOf xs) (termsOf2 xs) evs tvs vE vT S T0 W hpw hgg4 (Nat.le_refl _) hW kt (kp.blk bx1) (kp.blk bx2) aq (by omega) (fun W' h1 _ => hT p' (d + 1) W' h1 hne2) hne2).mono fun e W' hq => hq.map fun a v W' h => ⟨kp.trans h.1, by
          have e1 : exprsOf (xs ++ [.inr a]) = exprsOf xs := by unfold exprsOf; rw [List.filterMap_append]; simp
          have e2 : termsOf2 (xs ++ [.inr a]) = termsOf2 xs ++ [a] := by unfold termsOf2; rw [List.filterMap_append]; rfl
          rw [e1, e2]
          exact h.2⟩)
    (by rw [← hR]; exact hneR)
  rw [← hR, hfl] at hwi
  rcases Rs.ok_or hneR with ⟨q, ov, hr⟩ | ⟨xs, q, hr⟩
  · rw [hr] at hwi hq
    refine Seq.callB (Enters.func rfl rfl rfl (run_enter Try.func110 (by kernel_rfl) rfl)) rfl hwi ?_
    rintro e w9 ⟨hf, rfl, d6, hp6⟩
    refine ⟨_, rfl, fun a ha => ⟨ha.defers, ?_⟩⟩
    rw [hq]
    exact ⟨(bel0.step bel).trans (hf.less (by omega)), rfl, d6, hp6⟩
  have hxl := withinP_len (hR.symm.trans hr)
  rw [hol] at hxl
  obtain ⟨l1, l2⟩ := hexl xs
  rw [hr] at hwi hq
  replace hq : termP K.ws E0 T0 p d = .ok (.mk op [] (exprsOf xs) (termsOf2 xs)) q := hq
  refine Seq.call (Enters.func rfl rfl rfl (run_enter Try.func110 (by kernel_rfl) rfl)) rfl rfl rfl (hwi) ?_
  rintro e wq ⟨hf, v6, rfl, pwq, kpq, evs, tvs, vE, vT, S, k4q, aqq⟩
  refine ⟨_, rfl, ?_⟩
  have k2q : Blk wq g2 57 #[.int .i64 0, .string { data := #[] }, .slice none 0 0, .slice none 0 0] := by
    have h2 : Blk wr g2 57 #[.int .i64 0, .string { data := #[] }, .slice none 0 0, .slice none 0 0] := k2
    have h1 := hf.block g2 (by omega) (by omega)
    unfold Blk at h2 ⊢
    rw [h1]
    exact h2
  have belq : Fz w.heap.size K.g w wq := (bel0.step bel).trans (hf.less (by omega))
  have hrep := aqq.tm op [] hop64 (by simp) (by simp) (by omega) (by omega)
  have hbn := aqq.bounds
  obtain ⟨AE, cE, hvE, -⟩ := aqq.ownE.reads
  obtain ⟨AT, cT, hvT, -⟩ := aqq.ownT.reads
  subst hvE hvT
  clear bel k1 k2 k4
  have bel := belq
  have k2 := k2q
  have k4 := k4q
  have hlt2 := k2.lt
  refine Seq.nil ?_
  refine Post.weak (F' := [(1, _), (2, _), (4, _), (7, _), (8, _), (72, _), (73, _), (74, _)]) ⟨rfl, rfl, rfl, rfl, rfl, rfl, rfl, rfl, trivial⟩ ?_
  refine Post.then_ ?_
  refine Cd.seq ?_
  refine Cd.region ?_
  refine Seq.val (Runs.loadW rfl rfl Try.underlying57 rfl k4 (m := 4) (by kernel_rfl) rfl) rfl rfl rfl ?_
  refine Seq.storeN rfl rfl rfl rfl (m := 4) (by kernel_rfl) rfl (by repeat' first | exact trivial | apply And.intro | rfl | assumption) k2 (by simp [Value.cells]) rfl rfl ?_
  intro w8 pw8
  replace bel := bel.put k2 pw8 e2
  replace k4 := k4.put pw8 (by omega)
  replace k2 := pw8.blk
  refine Seq.nil ?_
  refine Post.weak (F' := [(1, _), (2, _), (4, _), (7, _), (8, _), (72, _), (73, _), (74, _)]) ⟨rfl, rfl, rfl, rfl, rfl, rfl, rfl, rfl, trivial⟩ ?_
  refine Post.then_ ?_
  refine Cd.ret ?_
  refine Post.endC rfl rfl k2 Try.underlying57 rfl (m := 4) (by kernel_rfl) rfl (.inl rfl) ?_
  rw [hq]
  have hsz := pw8.size
  refine ⟨bel, _, rfl, ⟨pwq.blk.put pw8 (by omega), pw.rd.below (bel.below (by omega) hle), pwq.p_le, pwq.d_le⟩, _, hrep.mono (fun _ h => h) (fun a ha => World.cell?_of_block (pw8.grown.block _ (hbn _ ha).2.1 (fun e => by injection e with e; have := (hbn _ ha).1; omega))), fun b hb => ?_⟩
  obtain ⟨h1, h2, -⟩ := hbn b hb
  exact ⟨by omega, by omega⟩
/-- All terms, by the fuel. -/
theorem hasT_all (K : Ctx) (hK : K.Ok) : ∀ n, HasT K (fuelT K.ws n)
  | 0 => fun p d W _ h => absurd rfl h
  | n + 1 => fun p d W hp hne => term_any K hK ((fuelP K.ws (n + 1)).E 0) (fuelT K.ws n) (fun p d W hp hne => (has_all K hK (n + 1) (n + 1) (Nat.le_refl _)).2 0 (by omega) p d W hp hne) (hasT_all K hK n) p d W hp hne
end Go.Proofs.Ytijaldpmpjapiaa

namespace Go.Proofs.Ytijaldpmpjapiaa
open Go.RowKit

theorem catch_idle (g : Nat) (w : World) : CallsD Try.prog 147 #[.pointer (some ⟨g, 0, none⟩)] .returning w fun e u' w' => e = .returned (.tuple #[]) ∧ u' = .returning ∧ w' = w := by
  refine callsD_of_wpS Try.func147 rfl fun c₀ cs hu => ?_
  apply wpS_seq
  apply wpS_region
  simp [wpOpsS, go_sem, recoverD, hu, Try.ntmps147, Exit.thenS]
  apply wpS_seq
  apply wpS_region
  simp [wpOpsS, go_sem, recoverD, hu, Exit.thenS, Try.underlying20]
  refine wpS_cond (t := false) (by simp [Act.eval, Array.replicate]) ?_
  simp only [Bool.false_eq_true, if_false]
  refine wpS_of_wp (wp_skip ?_)
  cases c₀
  simp_all [bodyPostS, results, Try.results147]
theorem zero_parse_stop : zeroIs Try.prog 175 = some (some (.agg #[])) := by kernel_rfl
theorem Runs.typeAssert {P : Program} {E : Operand → Option Value} {o : Oper} {w : World} {x : Operand} {T T' : TypeId} {b : Bool} {v u : Value} (ho : o.op = .typeAssert x T T' b) (hx : E x = some v) (hr : (Instr.typeAssert v T T' b).run P w = .ok u w) : Runs P E o w u w := fun ρ h => by
  unfold execOp; simp only [ho]; rw [h _ _ hx]; simp only [Sem.run_bind, hr, Result.andThen_ok]; rfl
theorem Cd.at_ {P : Program} {c : Code} {Q : Exit → Act → World → Prop} {n : Nat} {F : List (Nat × Value)} {w : World} {a : Act} (h : Cd P c Q n F w) (ha : Fr n F a) : c.wp P Q a w := h a ha
theorem catch_stop (g : Nat) (b : Bool) (w : World) (hb : Blk w g 4 #[.bool b]) : CallsD Try.prog 147 #[.pointer (some ⟨g, 0, none⟩)] (.panicking stopCh) w fun e u' w' =>
    e = .returned (.tuple #[]) ∧ u' = .panicking [{ v := .iface 175 (.agg #[]), recovered := true }] ∧ Blk w' g 4 #[.bool false] ∧ w.grownBy w' (some g) := by
  refine callsD_of_wpS Try.func147 rfl fun c₀ cs hu => ?_
  unfold stopCh at hu
  apply wpS_seq
  apply wpS_region
  simp [wpOpsS, go_sem, recoverD, hu, Try.ntmps147, Exit.thenS]
  apply wpS_seq
  apply wpS_region
  simp [wpOpsS, go_sem, recoverD, hu, Exit.thenS, Try.underlying20]
  refine wpS_cond (t := true) (by simp [Act.eval, Array.replicate]) ?_
  simp only [if_true]
  refine wpS_of_wp ?_
  refine Cd.at_ (n := 15) (F := [(0, .pointer (some ⟨g, 0, none⟩)), (1, .iface 175 (.agg #[]))]) ?_ ⟨by simp, rfl, fun t v ht => ?_⟩
  · refine Cd.seq ?_
    refine Cd.seq ?_
    refine Cd.region ?_
    refine Seq.val (Runs.move rfl rfl) rfl rfl rfl ?_
    refine Seq.val (Runs.typeAssert (u := .tuple #[.agg #[], .bool true]) rfl rfl (by kernel_rfl)) rfl rfl rfl ?_
    refine Seq.val (Runs.move rfl rfl) rfl rfl rfl ?_
    refine Seq.val (Runs.extract rfl rfl rfl) rfl rfl rfl ?_
    refine Seq.val (Runs.extract rfl rfl rfl) rfl rfl rfl ?_
    refine Seq.alloc rfl (run_zero zero_parse_stop) rfl rfl rfl ?_
    intro g2 w1 n2
    have hb1 := hb.step n2.below
    refine Seq.storeN (m := 0) rfl rfl rfl rfl (by kernel_rfl) rfl trivial n2.blk (by simp [Value.cells]) rfl rfl ?_
    intro w2 p2
    have hne : g ≠ g2 := by have := hb.lt; have := n2.ge; omega
    have hb2 := hb1.put p2 hne
    refine Seq.val (Runs.assign rfl rfl) rfl rfl rfl ?_
    refine Seq.nil ?_
    refine Post.then_ ?_
    refine Cd.seq ?_
    refine Cd.region ?_
    refine Seq.val (Runs.move rfl rfl) rfl rfl rfl ?_
    refine Seq.val (Runs.not rfl rfl) rfl rfl rfl ?_
    refine Seq.nil ?_
    refine Post.then_ ?_
    refine Cd.condF rfl rfl ?_
    refine Cd.skip ?_
    refine Post.then_ ?_
    refine Cd.region ?_
    refine Seq.store1 rfl rfl rfl (by kernel_rfl) rfl rfl hb2 rfl rfl rfl ?_
    intro w3 p3
    refine Seq.nil ?_
    intro a ha
    have hgr : w.grownBy w3 (some g) := by
      have h1 : w.grownBy w1 (some g) := ⟨n2.below.os, n2.below.tape, n2.below.output, n2.below.size, fun k hk _ => n2.below.block k hk⟩
      have h2 : w1.heap.size = w2.heap.size := p2.size.symm
      refine ⟨p3.grown.os.trans (p2.grown.os.trans h1.os), p3.grown.tape.trans (p2.grown.tape.trans h1.tape), p3.grown.output.trans (p2.grown.output.trans h1.output), by have := h1.size; have := p2.size; have := p3.size; omega, fun k hk hne2 => ?_⟩
      have hge := n2.ge
      have hs1 := h1.size
      rw [p3.grown.block k (by omega) hne2, p2.grown.block k (by omega) (fun e => by injection e with e; omega)]
      exact h1.block k hk hne2
    refine ⟨ha.defers, _, ?_, .tuple #[], ?_, rfl, rfl, p3.blk, hgr⟩
    · cases c₀
      simp_all
    · exact results_none rfl _ _ _
  rcases look_put ht with ⟨rfl, rfl⟩ | ⟨-, ht⟩
  · simp
  rcases look_put ht with ⟨rfl, rfl⟩ | ⟨-, ht⟩
  · simp
  cases ht
end Go.Proofs.Ytijaldpmpjapiaa

namespace Go.Proofs.Ytijaldpmpjapiaa
open Go.RowKit

/-- A deferred call of a closure. -/
def dcallV (g : FuncId) (cap : List Value) : Deferred := { target := .fn (.func g) cap.toArray, args := #[] }
theorem Seq.deferV {P : Program} {ops : Array Oper} {Q : Exit → Act → World → Prop} {rest : List Oper} {o : Oper} {n t : Nat} {F : List (Nat × Value)} {w : World} {g : FuncId} {cap : List Value} {ts : Array TypeId} (ho : o.op = .defer { callee := .value (.tmp t), args := #[], argTypes := ts }) (hx : evF F (.tmp t) = some (.func (.func g) #[] cap.toArray)) (hg : o.guard = none) (hd : o.dst = none)
    (h : ∀ I : Inhabited (List Deferred), I.default = [dcallV g cap] → @Seq I P ops Q rest n F w) : Seq P ops Q (o :: rest) n F w := by
  intro a ha
  refine wpList_plain hg fun K hK => ?_
  have hr : (execOp a.eval o).run P w = .ok (.defer (dcallV g cap)) w := by
    unfold execOp
    have hf : a.eval (.tmp t) = .func (.func g) #[] cap.toArray := ha.ev _ _ hx
    simp only [ho, resolve, hf, Deferred.ofValue, Sem.run_bind, Sem.run_pure, Result.andThen_ok]
    simp [dcallV]
  unfold Oper.wp
  rw [hr, Oper.upon_defer, hd]
  have hD : dcallV g cap :: a.defers = [dcallV g cap] := by rw [ha.defers]; rfl
  exact hK _ _ (h ⟨[dcallV g cap]⟩ rfl _ (@Fr.mk ⟨[dcallV g cap]⟩ n F _ ha.size hD ha.slot))
theorem results_bool {P : Program} {fn : Func} {p g : Nat} {ty t : TypeId} {b : Bool} {w : World} (h : fn.results = #[.cell p ty]) (tmps : Array Value) (hp : tmps[p]? = some (.pointer (some ⟨g, 0, none⟩))) (hu : P.underlying ty = some .bool) (hb : Blk w g t #[.bool b]) : (results fn tmps).run P w = .ok (.bool b) w := by
  have hagg : (isAgg ty).run P w = .ok false w := by
    unfold isAgg
    rw [Sem.run_bind, run_underlying hu w]
    rfl
  have hc : w.cell? ⟨g, 0, none⟩ = some (.bool b) := by rw [hb.cell 0]; rfl
  simp [results, h, hp, asAddr, loadVar, Sem.run_bind, hagg, go_sem, hc]
/-- What a run answers. -/
def RunR {α : Type} (K : Ctx) (h : Nat) (w : World) (r : Rs α) (okv : α → World → Prop) (e : Ending) (w' : World) : Prop :=
  Fz h K.g w w' ∧ Kp w w' ∧ match r with
  | .out => False
  | .bad p ov => e = .returned (.bool false) ∧ ∃ d, PW K w' p d ov
  | .ok a p => e = .returned (.bool (decide (p = K.ws.length))) ∧ (∃ d, PW K w' p d false) ∧ okv a w'
/-- What is asked of the call within. -/
def PRk {α : Type} (K : Ctx) (h : Nat) (W : World) (r : Rs α) (okv : α → World → Prop) (e : Ending) (W' : World) : Prop := match r with
  | .out => False
  | .bad p ov => Fz W.heap.size K.g W W' ∧ e = .panicked stopCh ∧ ∃ d, PW K W' p d ov
  | .ok a p => Fz h K.g W W' ∧ Kp W W' ∧ (∃ v, e = .returned v) ∧ PW K W' p 0 false ∧ okv a W'
theorem runP_any {α : Type} (K : Ctx) (hK : K.Ok) (f : Nat) (cp : List Value) (h : Nat) (r : Rs α) (okv : World → α → World → Prop) (ok2 : α → World → Prop) (w : World) (pw : PW K w 0 0 false) (hh : h ≤ w.heap.size) (hne : r ≠ .out) (eg : ∀ args w, (callFunc f args).run Try.prog w = .ok (.enter f args) w)
    (hok : ∀ a W0 W W' g, okv W0 a W → w.heap.size ≤ g → g < W0.heap.size → W0.heap.size ≤ W.heap.size → W.heap.size ≤ W'.heap.size → (∀ k, k < W.heap.size → k ≠ g → W'.heap[k]? = W.heap[k]?) → ok2 a W')
    (hc : ∀ W, Below w.heap.size w W → PW K W 0 0 false → Calls Try.prog f cp.toArray W (PRk K h W r (okv W))) :
    Calls Try.prog 106 #[.pointer (some ⟨K.g, 0, none⟩), .func (.func f) #[] cp.toArray] w (RunR K h w r ok2) := by
  have bel := Below.refl w.heap.size w
  have hle := hK.le
  have hlt := pw.blk.lt
  have hen : ∀ args w, (callFunc 147 args).run Try.prog w = .ok (.enter 147 args) w := fun args w => run_enter Try.func147 (by kernel_rfl) rfl args w
  refine Calls.startD 18 Try.func106 rfl rfl rfl ?_
  refine Cd.seq ?_
  refine Cd.region ?_
  refine Seq.alloc rfl (run_zero zero_bool) rfl rfl rfl ?_
  intro g4 w1 n4
  have e4 := Nat.le_trans bel.size n4.ge
  replace bel := bel.step n4.below
  have k4 := n4.blk
  refine Seq.nil ?_
  refine Post.weak (F' := [(0, _), (1, _), (4, _)]) ⟨rfl, rfl, rfl, trivial⟩ ?_
  refine Post.then_ ?_
  refine Cd.seq ?_
  refine Cd.region ?_
  refine Seq.val (Runs.makeFunc (v := .func (.func 147) #[] #[.pointer (some ⟨g4, 0, none⟩)]) rfl (show evL _ _ = some [] from rfl) (show evL _ _ = some [.pointer (some ⟨g4, 0, none⟩)] from rfl) rfl) rfl rfl rfl ?_
  refine Seq.deferV (cap := [.pointer (some ⟨g4, 0, none⟩)]) rfl rfl rfl rfl ?_
  intro I hI
  have hcl := hc _ bel (pw.step hle bel)
  have hltc := k4.lt
  have kp : Kp w w1 := (Kp.refl w).step bel
  have hs1 := bel.size
  refine Seq.nil ?_
  refine Post.weak (F' := [(0, _), (1, _), (4, _)]) ⟨rfl, rfl, rfl, trivial⟩ ?_
  refine Post.then_ ?_
  refine Cd.seq ?_
  refine Cd.region ?_
  refine Seq.val (Runs.move rfl rfl) rfl rfl rfl ?_
  rcases Rs.ok_or hne with ⟨q, ov, hr⟩ | ⟨x, q, hr⟩
  · rw [hr] at hcl ⊢
    refine Seq.callB (Enters.value (first := []) (cap := cp) rfl rfl rfl eg) rfl hcl ?_
    rintro e w6 ⟨hf, rfl, d6, hp6⟩
    refine ⟨_, rfl, fun a ha => ?_⟩
    have k46 := k4.fz hf (by omega)
    show Leaves Try.prog _ a.tmps _ a.defers (.panicking stopCh) w6
    rw [ha.defers, hI]
    refine leaves_cons (by simp) (f := 147) (args := #[.pointer (some ⟨g4, 0, none⟩)]) (by simp [invoke, hen]) ((catch_stop g4 false w6 k46).mono fun e u' w' ⟨h1, h2, h3, h4⟩ => ?_)
    subst h1 h2
    have hfw : Fz h K.g w w6 := (Fz.of (bel.mono hh)).trans (hf.less (by omega))
    have hg4 : Fz h K.g w6 w' := ⟨h4.os, h4.tape, h4.output, h4.size, fun k hk _ => by
      have := hf.size
      exact h4.block k (by omega) (fun e => by injection e with e; omega)⟩
    have kp6 : Kp w w6 := kp.fz (pw.step hle bel).blk hf
    refine ⟨_, results_bool rfl a.tmps (ha.slot 4 _ rfl) Try.underlying4 h3, hfw.trans hg4, ⟨Nat.le_trans kp6.size h4.size, fun k t cs hb h1 h2 h3' => (kp6.keep k t cs hb h1 h2 h3').grown h4 (fun e => by injection e with e; have := hb.lt; omega)⟩, rfl, d6, hp6.blk.grown h4 (fun e => by injection e with e; omega), hp6.rd.below ⟨h4.os, h4.tape, h4.output, h4.size, fun k hk => h4.block k (by have := hp6.blk.lt; omega) (fun e => by injection e with e; omega)⟩, hp6.p_le, hp6.d_le⟩
  rw [hr] at hcl ⊢
  refine Seq.call (Enters.value (first := []) (cap := cp) rfl rfl rfl eg) rfl rfl rfl hcl ?_
  rintro e wq ⟨hf, kpq, ⟨v, rfl⟩, pwq, hov⟩
  refine ⟨_, rfl, ?_⟩
  have hbel1 := bel
  clear bel
  have hfw : Fz h K.g w wq := (Fz.of (hbel1.mono hh)).trans hf
  have kp6 := kp.trans kpq
  have k46 := kpq.blk k4
  have hg4 : g4 ≠ K.g := by omega
  clear k4
  have k4 := k46
  have k99 := pwq.blk
  have bel := Below.refl wq.heap.size wq
  have loc := Fz.refl wq.heap.size g4 wq
  have e4' : g4 = g4 := rfl
  refine Seq.nil ?_
  refine Post.weak (F' := [(0, _), (1, _), (4, _)]) ⟨rfl, rfl, rfl, trivial⟩ ?_
  refine Post.then_ ?_
  refine Cd.seq ?_
  refine Cd.draw 10 (by kernel_rfl) [] (.inl rfl) rfl Grow Grow.refl (fun _ _ _ => Grow.trans) ?_
  intro w2 hw2 zw2
  replace bel := bel.step hw2
  replace k99 := k99.step hw2
  replace k4 := k4.step hw2
  have zbel := bel.size
  have zlt := k4.lt
  refine Dr.val Grow.refl rfl (fun w hG => Runs.move rfl rfl) rfl ?_
  refine Dr.val Grow.refl rfl (fun w hG => Runs.nilCheck rfl rfl) rfl ?_
  refine Dr.val Grow.refl rfl (fun w hG => Runs.fieldB 1 rfl rfl Try.underlying141 rfl (by kernel_rfl)) rfl ?_
  refine Dr.val Grow.refl rfl (fun w hG => Runs.loadB rfl rfl Try.underlying3 rfl (k99.step hG) rfl) rfl ?_
  refine Dr.val Grow.refl rfl (fun w hG => Runs.move rfl rfl) rfl ?_
  refine Dr.val Grow.refl rfl (fun w hG => Runs.nilCheck rfl rfl) rfl ?_
  refine Dr.val Grow.refl rfl (fun w hG => Runs.fieldB 0 rfl rfl Try.underlying141 rfl (by kernel_rfl)) rfl ?_
  refine Dr.val Grow.refl rfl (fun w hG => Runs.loadB rfl rfl Try.underlying40 rfl (k99.step hG) rfl) rfl ?_
  refine Dr.val Grow.refl rfl (fun w hG => Runs.len rfl rfl Try.underlying40) rfl ?_
  refine Dr.val Grow.refl rfl (fun w hG => Runs.eqlI rfl rfl rfl) rfl ?_
  refine Dr.nil ?_
  refine FinX.done (F' := [(0, _), (1, _), (4, _), (17, _)]) rfl ⟨rfl, rfl, rfl, rfl, trivial⟩ ?_
  intro w3 hw3 fw3
  replace bel := bel.step hw3
  replace k99 := k99.step hw3
  replace k4 := k4.step hw3
  have hbw := bel
  have hsw := bel.size
  have hlt4 := k4.lt
  have k4q := k46
  refine Seq.store1 rfl rfl rfl (by kernel_rfl) rfl rfl k4 rfl rfl rfl ?_
  intro w4 pw4
  replace k99 := k99.put pw4 (by omega)
  replace k4 := pw4.blk
  refine Seq.nil ?_
  refine Post.weak (F' := [(0, _), (1, _), (4, _)]) ⟨rfl, rfl, rfl, trivial⟩ ?_
  refine Post.then_ ?_
  refine Cd.ret ?_
  intro a ha
  show Leaves Try.prog _ a.tmps _ a.defers .returning _
  rw [ha.defers, hI]
  refine leaves_cons (by simp) (f := 147) (args := #[.pointer (some ⟨g4, 0, none⟩)]) (by simp [invoke, hen]) ((catch_idle g4 _).mono fun e u' w' ⟨h1, h2, h3⟩ => ?_)
  subst h1 h2 h3
  have hgr := pw4.grown
  have hsz := pw4.size
  have hblk : ∀ k, k < wq.heap.size → k ≠ g4 → w'.heap[k]? = wq.heap[k]? := fun k hk hne => (hgr.block k (by omega) (fun e => hne (by injection e))).trans (hbw.block k hk)
  have hfe : Fz h K.g wq w' := ⟨hgr.os.trans hbw.os, hgr.tape.trans hbw.tape, hgr.output.trans hbw.output, by omega, fun k hk _ => hblk k (by have := hfw.size; omega) (by omega)⟩
  have hdd : (decide ((q : Int) = (K.ws.length : Int))) = decide (q = K.ws.length) := by rw [decide_eq_decide]; omega
  refine ⟨_, results_bool rfl a.tmps (ha.slot 4 _ rfl) Try.underlying4 k4, hfw.trans hfe, ⟨Nat.le_trans kp6.size (by omega), fun k t cs hb h1 h2 h3' => ?_⟩, ?_, ⟨0, k99, pwq.rd.below (B := K.B) ⟨hfe.os, hfe.tape, hfe.output, hfe.size, fun k hk => hblk k (by omega) (by omega)⟩, pwq.p_le, pwq.d_le⟩, hok x _ wq _ g4 hov (by omega) hltc kpq.size (by omega) hblk⟩
  · have hb2 := kp6.keep k t cs hb h1 h2 h3'
    have := hb.lt
    have h9 := hblk k hb2.lt (by omega)
    unfold Blk at hb2 ⊢
    rw [h9]
    exact hb2
  · show Ending.returned (.bool (decide ((q : Int) = (K.ws.length : Int)))) = _
    rw [hdd]
end Go.Proofs.Ytijaldpmpjapiaa

namespace Go.Proofs.Ytijaldpmpjapiaa
open Go.RowKit

/-- Within a remark? -/
def stepB (b : Bool) (c : Nat) : Bool := if c = 35 then true else if c = 10 then false else b
def stK (l : List Nat) (b : Bool) : Nat → Bool
  | 0 => b
  | k + 1 => stepB (stK l b k) (l.getD k 0)
/-- The words from a place on, one behind the other, blanks between them. -/
def Chain (l : List Nat) : List Wd → Nat → Prop
  | [], q => q + blankN (l.drop q) = l.length
  | x :: r, q => x.pos = q + blankN (l.drop q) ∧ 0 < x.text.length ∧ x.pos + x.text.length ≤ l.length ∧ x.text = (l.drop x.pos).take x.text.length ∧ Chain l r (x.pos + x.text.length)
section
variable {P : Program} {E : Operand → Option Value} {o : Oper} {w : World} {x : Operand} {T : TypeId}
end
end Go.Proofs.Ytijaldpmpjapiaa

namespace Go.Proofs.Ytijaldpmpjapiaa

theorem part32 : partB 32 = false := by decide
theorem nextW_cons (c : Nat) (r : List Nat) : nextW (c :: r) = if digB c then (if dayOk (c :: r) then some (2, (c :: r).take 10, dateZ ((c :: r).take 10)) else (amt0 ((c :: r).take (runN partB (c :: r)))).map fun v => (1, (c :: r).take (runN partB (c :: r)), v))
    else if letB c then (if runN partB (c :: r) ≤ 16 then some (3, (c :: r).take (runN partB (c :: r)), 0) else none)
    else (signW (c :: r)).map fun s => (0, s, 0) := rfl
/-- The texts of words, a blank (and a remark) behind each. -/
def sepL (b : Bool) : List Nat := if b then [32, 35, 32, 40, 10] else [32]
def joinL (b : Bool) (ws : List Wd) : List Nat := ws.flatMap fun x => x.text ++ sepL b
def WdOk (x : Wd) : Prop := ∃ l, nextW l = some (x.kind, x.text, x.n)
end Go.Proofs.Ytijaldpmpjapiaa

namespace Go.Proofs.Ytijaldpmpjapiaa
open Go.RowKit

/-- What a word may be. -/
def WdB (x : Wd) : Prop := (x.kind = 0 ∧ x.text ∈ signsL ∧ x.n = 0) ∨ (x.kind = 1 ∧ 0 ≤ x.n ∧ x.n ≤ 9223372036854775807) ∨ (x.kind = 2 ∧ 0 ≤ x.n ∧ x.n ≤ 2932896) ∨ (x.kind = 3 ∧ namedB x.text = true ∧ x.n = 0)
theorem runN_full (p : Nat → Bool) (t : List Nat) (ht : ∀ x ∈ t, p x = true) : runN p t = t.length := by
  induction t with
  | nil => rfl
  | cons x t ih => rw [runN_cons, if_pos (ht x (by simp)), ih (fun y hy => ht y (by simp [hy]))]; rfl
theorem ofZ_bd {y m d : Int} (h : ofOk y m d = true) : 0 ≤ ofZ y m d ∧ ofZ y m d ≤ 2932896 := by
  unfold ofOk at h
  simp only [Bool.and_eq_true, decide_eq_true_eq] at h
  obtain ⟨⟨⟨h1, h2⟩, h3⟩, h4⟩ := h
  obtain ⟨h5, h6, h7⟩ := daysZ_m (y := y) (m := m) (by omega)
  unfold ofZ ofY ofM
  by_cases hm : m < 3
  · rw [if_pos hm, if_pos hm]; omega
  · rw [if_neg hm, if_neg hm]; omega
theorem dateZ_bd (l : List Nat) : 0 ≤ dateZ l ∧ dateZ l ≤ 2932896 := by
  unfold dateZ
  split
  · rename_i h
    unfold dateOk at h
    simp only [Bool.and_eq_true] at h
    exact ofZ_bd h.2
  · omega
theorem nextW_bd {l : List Nat} {k : Int} {t : List Nat} {n : Int} {pos : Nat} (h : nextW l = some (k, t, n)) : WdB ⟨k, t, n, pos⟩ := by
  obtain ⟨h1, h2, h3⟩ := nextW_spec h
  cases l with
  | nil => cases h
  | cons c l =>
    rw [nextW_cons] at h
    by_cases hd : digB c = true
    · rw [if_pos hd] at h
      by_cases hday : dayOk (c :: l) = true
      · rw [if_pos hday] at h
        injection h with h
        injection h with e1 h
        injection h with e2 e3
        have := dateZ_bd ((c :: l).take 10)
        exact .inr (.inr (.inl ⟨e1.symm, by simp only; omega, by simp only; omega⟩))
      · rw [if_neg hday] at h
        cases ha : amt0 ((c :: l).take (runN partB (c :: l))) with
        | none => rw [ha] at h; cases h
        | some v =>
          rw [ha] at h
          injection h with h
          injection h with e1 h
          injection h with e2 e3
          unfold amt0 at ha
          split at ha
          · rename_i h6
            injection ha with ha
            exact .inr (.inl ⟨e1.symm, by simp only; omega, by simp only; omega⟩)
          · cases ha
    · rw [if_neg hd] at h
      by_cases hle : letB c = true
      · rw [if_pos hle] at h
        by_cases h16 : runN partB (c :: l) ≤ 16
        · rw [if_pos h16] at h
          injection h with h
          injection h with e1 h
          injection h with e2 e3
          have hall : ∀ x ∈ t, partB x = true := by rw [← e2]; exact runN_all partB _
          have htl : t.length ≤ 16 := by rw [← e2, List.length_take]; omega
          have ht0 : t.getD 0 0 = c := by
            cases t with
            | nil => simp at h1
            | cons d q =>
              rw [List.length_cons, List.take_succ_cons] at h2
              injection h2 with h2 _
          refine .inr (.inr (.inr ⟨e1.symm, ?_, e3.symm⟩))
          show namedB t = true
          unfold namedB
          rw [runN_full partB t hall, ht0, hle]
          have hne : t ≠ [] := fun e => by rw [e] at h1; simp at h1
          simp [htl, hne]
        · rw [if_neg h16] at h; cases h
      · rw [if_neg hle] at h
        cases hs : signW (c :: l) with
        | none => rw [hs] at h; cases h
        | some s =>
          rw [hs] at h
          injection h with h
          injection h with e1 h
          injection h with e2 e3
          subst e2
          exact .inl ⟨e1.symm, List.mem_of_find?_eq_some hs, e3.symm⟩
theorem lexW_bd (l : List Nat) (hl : ∀ x ∈ l, x < 256) : ∀ f p, ∀ x ∈ (lexW f l p).1, WdB x ∧ (∀ c ∈ x.text, c < 256) ∧ x.text.length ≤ l.length ∧ x.pos < l.length
  | 0, p, x, h => by simp [lexW] at h
  | f + 1, p, x, h => by
    rcases Nat.lt_or_ge p l.length with hlt | hge
    · rw [lexW_step f l p hlt] at h
      cases hn : nextW (l.drop p) with
      | none => rw [hn] at h; simp at h
      | some z =>
        obtain ⟨k, t, n⟩ := z
        rw [hn] at h
        rcases List.mem_cons.1 h with rfl | h
        · obtain ⟨s1, s2, s3⟩ := nextW_spec hn
          refine ⟨nextW_bd hn, fun c hc => ?_, by rw [List.length_drop] at s3; dsimp only; omega, hlt⟩
          dsimp only at hc
          rw [s2] at hc
          exact hl c (List.mem_of_mem_drop (List.mem_of_mem_take hc))
        · exact lexW_bd l hl f _ x h
    · rw [lexW_end _ _ _ hge] at h; simp at h
theorem lexW_cnt (l : List Nat) : ∀ (f p : Nat), p ≤ l.length → (lexW f l p).1.length + p ≤ l.length
  | 0, p, h => by unfold lexW; simpa using h
  | f + 1, p, h => by
    rcases Nat.lt_or_ge p l.length with h2 | h2
    · rw [lexW_step f l p h2]
      cases hn : nextW (l.drop p) with
      | none => simpa using h
      | some x =>
        obtain ⟨k, t, n⟩ := x
        obtain ⟨s1, -, s3⟩ := nextW_spec hn
        rw [List.length_drop] at s3
        have hb := blankN_le (l.drop (p + t.length))
        rw [List.length_drop] at hb
        have := lexW_cnt l f (p + t.length + blankN (l.drop (p + t.length))) (by omega)
        simp
        omega
    · rw [lexW_end _ l p h2]; simpa using h
theorem lexAll_cnt (l : List Nat) : (lexAll l).1.length ≤ l.length := by
  have := lexW_cnt l (l.length + 1) (blankN l) (blankN_le l)
  unfold lexAll
  omega
theorem WdB.i64 {x : Wd} (h : WdB x) : I64 x.kind ∧ I64 x.n := by
  unfold I64
  rcases h with ⟨h1, -, h2⟩ | ⟨h1, h2, h3⟩ | ⟨h1, h2, h3⟩ | ⟨h1, -, h2⟩ <;> omega
theorem ctx_ok (l : List Nat) (hl : ∀ x ∈ l, x < 256) (h4 : l.length ≤ 4000) {B g c : Nat} {A : Option Addr} (hle : B ≤ g) : (Ctx.mk B g c l.length A (lexAll l).1).Ok :=
  ⟨hle, by have := lexAll_cnt l; show (lexAll l).1.length ≤ 4000; omega, h4, fun x hx => by
    obtain ⟨h1, h2, h3, h4'⟩ := lexW_bd l hl _ _ x hx
    exact ⟨h1.i64.1, h1.i64.2, h2, by omega, by omega⟩⟩
end Go.Proofs.Ytijaldpmpjapiaa

namespace Go.Proofs.Ytijaldpmpjapiaa
open Go.RowKit

theorem parsedC_any {α : Type} (K : Ctx) (h : Nat) (f : Nat) (cp : List Value) (b3 b9 : Nat) (r : Rs α) (okv : α → World → Prop) (W : World) (eg : ∀ args w, (callFunc f args).run Try.prog w = .ok (.enter f args) w)
    (k3 : Blk W b3 101 #[.func (.func f) #[] cp.toArray]) (k9 : Blk W b9 99 #[.pointer (some ⟨K.g, 0, none⟩)]) (hne : r ≠ .out)
    (hc : Calls Try.prog f ([] ++ [Value.pointer (some ⟨K.g, 0, none⟩)] ++ cp).toArray W (PRk K h W r okv)) :
    Calls Try.prog 107 #[.pointer (some ⟨b3, 0, none⟩), .pointer (some ⟨b9, 0, none⟩)] W (PRk K h W r okv) := by
  have bel := Below.refl W.heap.size W
  have k98 := k3
  have k99 := k9
  refine Calls.start 5 Try.func107 rfl rfl rfl ?_
  refine Cd.region ?_
  refine Seq.val (Runs.loadB rfl rfl Try.underlying101 rfl k98 rfl) rfl rfl rfl ?_
  refine Seq.val (Runs.loadB rfl rfl Try.underlying99 rfl k99 rfl) rfl rfl rfl ?_
  rcases Rs.ok_or hne with ⟨q, ov, hr⟩ | ⟨x, q, hr⟩
  · rw [hr] at hc ⊢
    refine Seq.callB (Enters.value (first := []) (cap := cp) rfl rfl rfl eg) rfl hc ?_
    rintro e w6 ⟨hf, rfl, d6, hp6⟩
    refine ⟨_, rfl, fun a ha => ⟨ha.defers, ?_⟩⟩
    exact ⟨hf, rfl, d6, hp6⟩
  rw [hr] at hc ⊢
  refine Seq.call (Enters.value (first := []) (cap := cp) rfl rfl rfl eg) rfl rfl rfl hc ?_
  rintro e wq ⟨hf, kpq, ⟨v, rfl⟩, pwq, hov⟩
  refine ⟨_, rfl, ?_⟩
  refine Seq.nil ?_
  refine Post.weak (F' := [(0, _), (1, _)]) ⟨rfl, rfl, trivial⟩ ?_
  refine Post.end0 rfl (.inr rfl) ?_
  exact ⟨hf, kpq, ⟨_, rfl⟩, pwq, hov⟩
/-- The place of a word; at the end the text's length. -/
def endPos (l : List Nat) (p : Nat) : Nat := ((lexAll l).1.getD p ⟨-1, [], 0, l.length⟩).pos
/-- Where, and why, a text is none; or (0, 0). -/
def parAt {α : Type} (l : List Nat) (r : Rs α) : Nat × Int := if 4000 < l.length then (0, 4) else match (lexAll l).2 with
  | some p => (p, 11)
  | none => match r with
    | .out => (0, 0)
    | .bad p ov => if ov = true then (0, 13) else (endPos l p, 11)
    | .ok _ p => if p = (lexAll l).1.length then (0, 0) else (endPos l p, 11)
def ParR {α : Type} (l : List Nat) (r : Rs α) (ok2 : α → World → Prop) (h : Nat) (w : World) (e : Ending) (w' : World) : Prop :=
  Below h w w' ∧ Kp w w' ∧ e = .returned (.tuple #[.int .i64 ((parAt l r).1 : Int), .int .i64 (parAt l r).2]) ∧ ((parAt l r).2 = 0 → ∃ a p, r = .ok a p ∧ ok2 a w')
theorem run_build_parser (A : Option Addr) (n c : Nat) (z : Int) (w : World) : (Instr.build 141 #[(0, .slice A n c), (4, .int .i64 z)]).run Try.prog w = .ok (.agg #[.slice A n c, .int .i64 0, .int .i64 0, .bool false, .int .i64 z]) w := by
  have hu := Try.underlying141
  go_simp
theorem run_field_Word (a b c : Int) (s : ByteArray) (w : World) : (Instr.field 50 (.agg #[.int .i64 a, .string s, .int .i64 b, .int .i64 c]) 3).run Try.prog w = .ok (.int .i64 c) w := by kernel_rfl
theorem zero__parse_parser : zeroIs Try.prog 99 = some (some (.pointer none)) := by kernel_rfl
theorem parsed_any {α : Type} (l : List Nat) (hl : ∀ x ∈ l, x < 256) (hlen : l.length ≤ 9223372036854775807) (f : Nat) (cp : List Value) (h : Nat) (r : Rs α) (okv : World → α → World → Prop) (ok2 : α → World → Prop) (w : World) (hh : h ≤ w.heap.size) (eg : ∀ args w, (callFunc f args).run Try.prog w = .ok (.enter f args) w)
    (hne : r ≠ .out)
    (hok : ∀ a W0 W W' g, okv W0 a W → w.heap.size ≤ g → g < W0.heap.size → W0.heap.size ≤ W.heap.size → W.heap.size ≤ W'.heap.size → (∀ k, k < W.heap.size → k ≠ g → W'.heap[k]? = W.heap[k]?) → ok2 a W')
    (hc : ∀ K : Ctx, K.Ok → K.ws = (lexAll l).1 → (lexAll l).2 = none → w.heap.size ≤ K.g → (∀ ad, K.A = some ad → w.heap.size ≤ ad.block) → ∀ W, Below w.heap.size w W → PW K W 0 0 false → Calls Try.prog f ([] ++ [Value.pointer (some ⟨K.g, 0, none⟩)] ++ cp).toArray W (PRk K h W r (okv W))) :
    Calls Try.prog 64 #[.string (strOf l), .func (.func f) #[] cp.toArray] w (ParR l r ok2 h w) := by
  have bel := Below.refl w.heap.size w
  refine Calls.start 40 Try.func64 rfl rfl rfl ?_
  refine Cd.seq ?_
  refine Cd.region ?_
  refine Seq.box rfl rfl rfl rfl rfl ?_
  intro g3 w1 n3
  have e3 := Nat.le_trans bel.size n3.ge
  replace bel := bel.step n3.below
  have k3 := n3.blk
  refine Seq.val (Runs.assign rfl rfl) rfl rfl rfl ?_
  refine Seq.val (Runs.assign rfl rfl) rfl rfl rfl ?_
  refine Seq.nil ?_
  refine Post.weak (F' := [(0, _), (1, _), (3, _), (4, _), (5, _)]) ⟨rfl, rfl, rfl, rfl, rfl, trivial⟩ ?_
  refine Post.then_ ?_
  refine Cd.seq ?_
  refine Cd.region ?_
  refine Seq.val (Runs.move rfl rfl) rfl rfl rfl ?_
  refine Seq.call (Enters.func rfl rfl rfl (run_enter Try.func19 (by kernel_rfl) rfl)) rfl rfl rfl (words_any l _ hl hlen) ?_
  rintro e wv ⟨hb2, ⟨h1, rfl⟩ | ⟨h1, p, h2, rfl⟩ | ⟨h4, h2, v, rfl, own⟩⟩
  · have hpa : parAt l r = (0, 4) := by unfold parAt; rw [if_pos h1]
    refine ⟨_, rfl, ?_⟩
    replace bel := bel.step hb2
    replace k3 := k3.step hb2
    refine Seq.val (Runs.move rfl rfl) rfl rfl rfl ?_
    refine Seq.val (Runs.extract rfl rfl rfl) rfl rfl rfl ?_
    refine Seq.val (Runs.extract rfl rfl rfl) rfl rfl rfl ?_
    refine Seq.val (Runs.extract rfl rfl rfl) rfl rfl rfl ?_
    refine Seq.val (Runs.assign rfl rfl) rfl rfl rfl ?_
    refine Seq.val (Runs.assign rfl rfl) rfl rfl rfl ?_
    refine Seq.val (Runs.assign rfl rfl) rfl rfl rfl ?_
    refine Seq.nil ?_
    refine Post.weak (F' := [(0, _), (1, _), (3, _), (4, _), (5, _), (6, _), (7, _), (8, _)]) ⟨rfl, rfl, rfl, rfl, rfl, rfl, rfl, rfl, trivial⟩ ?_
    refine Post.then_ ?_
    refine Cd.seq ?_
    refine Cd.seq ?_
    refine Cd.region ?_
    refine Seq.val (Runs.move rfl rfl) rfl rfl rfl ?_
    refine Seq.val (Runs.neqI rfl rfl rfl) rfl rfl rfl ?_
    refine Seq.nil ?_
    refine Post.weak (F' := [(0, _), (1, _), (3, _), (4, _), (5, _), (6, _), (7, _), (8, _), (18, _)]) ⟨rfl, rfl, rfl, rfl, rfl, rfl, rfl, rfl, rfl, trivial⟩ ?_
    refine Post.then_ ?_
    refine Cd.condT rfl (by simp) ?_
    refine Cd.seq ?_
    refine Cd.region ?_
    refine Seq.val (Runs.move rfl rfl) rfl rfl rfl ?_
    refine Seq.val (Runs.move rfl rfl) rfl rfl rfl ?_
    refine Seq.val (Runs.assign rfl rfl) rfl rfl rfl ?_
    refine Seq.val (Runs.assign rfl rfl) rfl rfl rfl ?_
    refine Seq.nil ?_
    refine Post.weak (F' := [(0, _), (1, _), (3, _), (4, _), (5, _), (6, _), (7, _), (8, _), (18, _)]) ⟨rfl, rfl, rfl, rfl, rfl, rfl, rfl, rfl, rfl, trivial⟩ ?_
    refine Post.then_ ?_
    refine Cd.ret ?_
    refine Post.then_ret ?_
    refine Post.end2 rfl rfl rfl (.inl rfl) ?_
    unfold ParR
    rw [hpa]
    exact ⟨bel.mono hh, (Kp.refl w).step bel, rfl, fun h => by cases h⟩
  · have hpa : parAt l r = (p, 11) := by unfold parAt; rw [if_neg (by omega), h2]
    refine ⟨_, rfl, ?_⟩
    replace bel := bel.step hb2
    replace k3 := k3.step hb2
    refine Seq.val (Runs.move rfl rfl) rfl rfl rfl ?_
    refine Seq.val (Runs.extract rfl rfl rfl) rfl rfl rfl ?_
    refine Seq.val (Runs.extract rfl rfl rfl) rfl rfl rfl ?_
    refine Seq.val (Runs.extract rfl rfl rfl) rfl rfl rfl ?_
    refine Seq.val (Runs.assign rfl rfl) rfl rfl rfl ?_
    refine Seq.val (Runs.assign rfl rfl) rfl rfl rfl ?_
    refine Seq.val (Runs.assign rfl rfl) rfl rfl rfl ?_
    refine Seq.nil ?_
    refine Post.weak (F' := [(0, _), (1, _), (3, _), (4, _), (5, _), (6, _), (7, _), (8, _)]) ⟨rfl, rfl, rfl, rfl, rfl, rfl, rfl, rfl, trivial⟩ ?_
    refine Post.then_ ?_
    refine Cd.seq ?_
    refine Cd.seq ?_
    refine Cd.region ?_
    refine Seq.val (Runs.move rfl rfl) rfl rfl rfl ?_
    refine Seq.val (Runs.neqI rfl rfl rfl) rfl rfl rfl ?_
    refine Seq.nil ?_
    refine Post.weak (F' := [(0, _), (1, _), (3, _), (4, _), (5, _), (6, _), (7, _), (8, _), (18, _)]) ⟨rfl, rfl, rfl, rfl, rfl, rfl, rfl, rfl, rfl, trivial⟩ ?_
    refine Post.then_ ?_
    refine Cd.condT rfl (by simp) ?_
    refine Cd.seq ?_
    refine Cd.region ?_
    refine Seq.val (Runs.move rfl rfl) rfl rfl rfl ?_
    refine Seq.val (Runs.move rfl rfl) rfl rfl rfl ?_
    refine Seq.val (Runs.assign rfl rfl) rfl rfl rfl ?_
    refine Seq.val (Runs.assign rfl rfl) rfl rfl rfl ?_
    refine Seq.nil ?_
    refine Post.weak (F' := [(0, _), (1, _), (3, _), (4, _), (5, _), (6, _), (7, _), (8, _), (18, _)]) ⟨rfl, rfl, rfl, rfl, rfl, rfl, rfl, rfl, rfl, trivial⟩ ?_
    refine Post.then_ ?_
    refine Cd.ret ?_
    refine Post.then_ret ?_
    refine Post.end2 rfl rfl rfl (.inl rfl) ?_
    unfold ParR
    rw [hpa]
    exact ⟨bel.mono hh, (Kp.refl w).step bel, rfl, fun h => by cases h⟩
  obtain ⟨A, cap, rfl, hrd⟩ := own.reads
  refine ⟨_, rfl, ?_⟩
  replace bel := bel.step hb2
  replace k3 := k3.step hb2
  refine Seq.val (Runs.move rfl rfl) rfl rfl rfl ?_
  refine Seq.val (Runs.extract rfl rfl rfl) rfl rfl rfl ?_
  refine Seq.val (Runs.extract rfl rfl rfl) rfl rfl rfl ?_
  refine Seq.val (Runs.extract rfl rfl rfl) rfl rfl rfl ?_
  refine Seq.val (Runs.assign rfl rfl) rfl rfl rfl ?_
  refine Seq.val (Runs.assign rfl rfl) rfl rfl rfl ?_
  refine Seq.val (Runs.assign rfl rfl) rfl rfl rfl ?_
  refine Seq.nil ?_
  refine Post.weak (F' := [(0, _), (1, _), (3, _), (4, _), (5, _), (6, _), (7, _), (8, _)]) ⟨rfl, rfl, rfl, rfl, rfl, rfl, rfl, rfl, trivial⟩ ?_
  refine Post.then_ ?_
  refine Cd.seq ?_
  refine Cd.seq ?_
  refine Cd.region ?_
  refine Seq.val (Runs.move rfl rfl) rfl rfl rfl ?_
  refine Seq.val (Runs.neqI rfl rfl rfl) rfl rfl rfl ?_
  refine Seq.nil ?_
  refine Post.weak (F' := [(0, _), (1, _), (3, _), (4, _), (5, _), (6, _), (7, _), (8, _), (18, _)]) ⟨rfl, rfl, rfl, rfl, rfl, rfl, rfl, rfl, rfl, trivial⟩ ?_
  refine Post.then_ ?_
  refine Cd.condF rfl (by simp) ?_
  refine Cd.skip ?_
  refine Post.then_ ?_
  refine Cd.seq ?_
  refine Cd.region ?_
  refine Seq.val (Runs.move rfl rfl) rfl rfl rfl ?_
  refine Seq.val (Runs.move rfl rfl) rfl rfl rfl ?_
  refine Seq.val (Runs.lenL rfl rfl Try.underlying9) rfl rfl rfl ?_
  refine Seq.val (Runs.build rfl rfl (run_build_parser _ _ _ _ _)) rfl rfl rfl ?_
  refine Seq.box rfl rfl rfl rfl rfl ?_
  intro g25 w2 n25
  have e25 := Nat.le_trans bel.size n25.ge
  have l25 := Nat.lt_of_lt_of_le k3.lt n25.ge
  replace bel := bel.step n25.below
  replace k3 := k3.step n25.below
  have k25 := n25.blk
  refine Seq.alloc rfl (run_zero zero__parse_parser) rfl rfl rfl ?_
  intro g9 w3 n9
  have e9 := Nat.le_trans bel.size n9.ge
  have l9 := Nat.lt_of_lt_of_le k25.lt n9.ge
  replace bel := bel.step n9.below
  replace k3 := k3.step n9.below
  replace k25 := k25.step n9.below
  have k9 := n9.blk
  refine Seq.store1 rfl rfl rfl (by kernel_rfl) rfl rfl k9 rfl rfl rfl ?_
  intro w4 pw4
  replace bel := bel.put k9 pw4 e9
  replace k3 := k3.put pw4 (by omega)
  replace k25 := k25.put pw4 (by omega)
  replace k9 := pw4.blk
  refine Seq.nil ?_
  refine Post.weak (F' := [(0, _), (1, _), (3, _), (4, _), (5, _), (6, _), (7, _), (8, _), (9, _), (18, _)]) ⟨rfl, rfl, rfl, rfl, rfl, rfl, rfl, rfl, rfl, rfl, trivial⟩ ?_
  refine Post.then_ ?_
  refine Cd.seq ?_
  refine Cd.seq ?_
  refine Cd.region ?_
  refine Seq.val (Runs.loadB rfl rfl Try.underlying99 rfl k9 rfl) rfl rfl rfl ?_
  refine Seq.val (Runs.makeFunc (v := .func (.func 107) #[] #[.pointer (some ⟨g3, 0, none⟩), .pointer (some ⟨g9, 0, none⟩)]) rfl (show evL _ _ = some [] from rfl) (show evL _ _ = some [.pointer (some ⟨g3, 0, none⟩), .pointer (some ⟨g9, 0, none⟩)] from rfl) rfl) rfl rfl rfl ?_
  have hB4 : Below wv.heap.size wv w4 := pw4.below_of (n25.below.step n9.below) (Nat.le_trans n25.below.size n9.ge) (by have := n9.below.size; have := k9.lt; have := pw4.size; omega)
  have hKok := ctx_ok l hl h4 (B := wv.heap.size) (g := g25) (c := cap) (A := A) n25.ge
  generalize hK : (Ctx.mk wv.heap.size g25 cap l.length A (lexAll l).1) = K at hKok
  have hKg : K.g = g25 := by rw [← hK]
  have hKw : K.ws = (lexAll l).1 := by rw [← hK]
  have hKe : K.en = l.length := by rw [← hK]
  have pw : PW K w4 0 0 false := by rw [← hK]; exact ⟨k25, hrd.below hB4, Nat.zero_le _, .inl (by omega)⟩
  have hKA : ∀ ad, K.A = some ad → w.heap.size ≤ ad.block := fun ad h => by
    rw [← hK] at h
    have h : A = some ad := h
    have := (own.blockLt ad.block (by rw [h]; rfl)).1
    have := n3.below.size
    omega
  subst hKg
  have hrun := runP_any K hKok 107 [.pointer (some ⟨g3, 0, none⟩), .pointer (some ⟨g9, 0, none⟩)] h r okv ok2 w4 pw (Nat.le_trans hh bel.size) hne (fun args w => run_enter Try.func107 (by kernel_rfl) rfl args w)
    (fun a W0 W W' g h1 h2 h3 h4 h5 h6 => hok a W0 W W' g h1 (Nat.le_trans bel.size h2) h3 h4 h5 h6)
    (fun W hb hp => parsedC_any K h f cp g3 g9 r (okv W) W eg (k3.step hb) (k9.step hb) hne (hc K hKok hKw h2 e25 hKA W (bel.step hb) hp))
  refine Seq.call (Enters.func rfl rfl rfl (run_enter Try.func106 (by kernel_rfl) rfl)) rfl rfl rfl (hrun) ?_
  rcases Rs.ok_or hne with ⟨q, ov, hr⟩ | ⟨x, q, hr⟩
  · rw [hr]
    rintro e w6 ⟨hf, kp, rfl, d6, hp6⟩
    refine ⟨_, rfl, ?_⟩
    have k9' := kp.blk k9
    have kfin : Kp w w6 := ((Kp.refl w).step bel).trans kp
    have bfin : Below h w w6 := (bel.mono hh).trans (hf.below (Nat.le_refl _) (by omega))
    have hw6 := word_any K hKok q d6 ov w6 hp6
    have hpos : (K.at_ q).pos = endPos l q := by unfold Ctx.at_ endPos; rw [hKw, hKe]
    have k99 := hp6.blk
    clear k9
    have k9 := k9'
    clear bel
    have bel := Below.refl w6.heap.size w6
    cases ov with
    | true =>
      have hpa : parAt l (Rs.bad (α := α) q true) = (0, 13) := by unfold parAt; rw [if_neg (by omega), h2]; rfl
      refine Seq.val (Runs.assign rfl rfl) rfl rfl rfl ?_
      refine Seq.nil ?_
      refine Post.weak (F' := [(0, _), (1, _), (3, _), (4, _), (5, _), (6, _), (7, _), (8, _), (9, _), (10, _), (18, _)]) ⟨rfl, rfl, rfl, rfl, rfl, rfl, rfl, rfl, rfl, rfl, rfl, trivial⟩ ?_
      refine Post.then_ ?_
      refine Cd.block ?_
      refine Cd.seq ?_
      refine Cd.region ?_
      refine Seq.val (Runs.loadB rfl rfl Try.underlying99 rfl k9 rfl) rfl rfl rfl ?_
      refine Seq.val (Runs.nilCheck rfl rfl) rfl rfl rfl ?_
      refine Seq.val (Runs.fieldB 3 rfl rfl Try.underlying141 rfl (by kernel_rfl)) rfl rfl rfl ?_
      refine Seq.val (Runs.loadB rfl rfl Try.underlying4 rfl k99 rfl) rfl rfl rfl ?_
      refine Seq.val (Runs.assign rfl rfl) rfl rfl rfl ?_
      refine Seq.nil ?_
      refine Post.weak (F' := [(0, _), (1, _), (3, _), (4, _), (5, _), (6, _), (7, _), (8, _), (9, _), (10, _), (18, _), (29, _)]) ⟨rfl, rfl, rfl, rfl, rfl, rfl, rfl, rfl, rfl, rfl, rfl, rfl, trivial⟩ ?_
      refine Post.then_ ?_
      refine Cd.condT rfl rfl ?_
      refine Cd.seq ?_
      refine Cd.region ?_
      refine Seq.val (Runs.assign rfl rfl) rfl rfl rfl ?_
      refine Seq.val (Runs.assign rfl rfl) rfl rfl rfl ?_
      refine Seq.nil ?_
      refine Post.weak (F' := [(0, _), (1, _), (3, _), (4, _), (5, _), (6, _), (7, _), (8, _), (9, _), (10, _), (18, _), (29, _)]) ⟨rfl, rfl, rfl, rfl, rfl, rfl, rfl, rfl, rfl, rfl, rfl, rfl, trivial⟩ ?_
      refine Post.then_ ?_
      refine Cd.ret ?_
      refine Post.block_ret ?_
      refine Post.then_ret ?_
      refine Post.end2 rfl rfl rfl (.inl rfl) ?_
      unfold ParR
      rw [hpa]
      exact ⟨bfin.trans (bel.mono (by have := bfin.size; omega)), kfin.step bel, rfl, fun h => by cases h⟩
    | false =>
      have hpa : parAt l (Rs.bad (α := α) q false) = (endPos l q, 11) := by unfold parAt; rw [if_neg (by omega), h2]; rfl
      have hwf := fun W (hb : Below w6.heap.size w6 W) => word_any K hKok q d6 false W (hp6.step hKok.le hb)
      refine Seq.val (Runs.assign rfl rfl) rfl rfl rfl ?_
      refine Seq.nil ?_
      refine Post.weak (F' := [(0, _), (1, _), (3, _), (4, _), (5, _), (6, _), (7, _), (8, _), (9, _), (10, _), (18, _)]) ⟨rfl, rfl, rfl, rfl, rfl, rfl, rfl, rfl, rfl, rfl, rfl, trivial⟩ ?_
      refine Post.then_ ?_
      refine Cd.block ?_
      refine Cd.seq ?_
      refine Cd.region ?_
      refine Seq.val (Runs.loadB rfl rfl Try.underlying99 rfl k9 rfl) rfl rfl rfl ?_
      refine Seq.val (Runs.nilCheck rfl rfl) rfl rfl rfl ?_
      refine Seq.val (Runs.fieldB 3 rfl rfl Try.underlying141 rfl (by kernel_rfl)) rfl rfl rfl ?_
      refine Seq.val (Runs.loadB rfl rfl Try.underlying4 rfl k99 rfl) rfl rfl rfl ?_
      refine Seq.val (Runs.assign rfl rfl) rfl rfl rfl ?_
      refine Seq.nil ?_
      refine Post.weak (F' := [(0, _), (1, _), (3, _), (4, _), (5, _), (6, _), (7, _), (8, _), (9, _), (10, _), (18, _), (29, _)]) ⟨rfl, rfl, rfl, rfl, rfl, rfl, rfl, rfl, rfl, rfl, rfl, rfl, trivial⟩ ?_
      refine Post.then_ ?_
      refine Cd.condF rfl rfl ?_
      refine Cd.seq ?_
      refine Cd.region ?_
      refine Seq.val (Runs.move rfl rfl) rfl rfl rfl ?_
      refine Seq.val (Runs.not rfl rfl) rfl rfl rfl ?_
      refine Seq.val (Runs.assign rfl rfl) rfl rfl rfl ?_
      refine Seq.nil ?_
      refine Post.weak (F' := [(0, _), (1, _), (3, _), (4, _), (5, _), (6, _), (7, _), (8, _), (9, _), (10, _), (18, _), (29, _), (34, _)]) ⟨rfl, rfl, rfl, rfl, rfl, rfl, rfl, rfl, rfl, rfl, rfl, rfl, rfl, trivial⟩ ?_
      refine Post.then_ ?_
      refine Cd.condT rfl rfl ?_
      refine Cd.seq ?_
      refine Cd.region ?_
      refine Seq.val (Runs.loadB rfl rfl Try.underlying99 rfl k9 rfl) rfl rfl rfl ?_
      refine Seq.call (Enters.func rfl rfl rfl (run_enter Try.func108 (by kernel_rfl) rfl)) rfl rfl rfl (hwf _ bel) ?_
      rintro e w7 ⟨rfl, hb7⟩
      refine ⟨_, rfl, ?_⟩
      replace bel := bel.step hb7
      replace k9 := k9.step hb7
      replace k99 := k99.step hb7
      refine Seq.val (Runs.field rfl rfl (run_field_Word _ _ _ _ _)) rfl rfl rfl ?_
      refine Seq.val (Runs.assign rfl rfl) rfl rfl rfl ?_
      refine Seq.val (Runs.assign rfl rfl) rfl rfl rfl ?_
      refine Seq.nil ?_
      refine Post.weak (F' := [(0, _), (1, _), (3, _), (4, _), (5, _), (6, _), (7, _), (8, _), (9, _), (10, _), (18, _), (29, _), (34, _)]) ⟨rfl, rfl, rfl, rfl, rfl, rfl, rfl, rfl, rfl, rfl, rfl, rfl, rfl, trivial⟩ ?_
      refine Post.then_ ?_
      refine Cd.ret ?_
      refine Post.block_ret ?_
      refine Post.then_ret ?_
      refine Post.end2 rfl rfl rfl (.inl rfl) ?_
      unfold ParR
      rw [hpa]
      refine ⟨bfin.trans (bel.mono (by have := bfin.size; omega)), kfin.step bel, ?_, fun h => by cases h⟩
      rw [← hpos]
  · rw [hr]
    rintro e w6 ⟨hf, kp, rfl, ⟨d6, hp6⟩, hov⟩
    refine ⟨_, rfl, ?_⟩
    have k9' := kp.blk k9
    have kfin : Kp w w6 := ((Kp.refl w).step bel).trans kp
    have bfin : Below h w w6 := (bel.mono hh).trans (hf.below (Nat.le_refl _) (by omega))
    have hpos : (K.at_ q).pos = endPos l q := by unfold Ctx.at_ endPos; rw [hKw, hKe]
    have k99 := hp6.blk
    clear k9
    have k9 := k9'
    clear bel
    have bel := Below.refl w6.heap.size w6
    rw [hKw] at *
    refine Seq.val (Runs.assign rfl rfl) rfl rfl rfl ?_
    refine Seq.nil ?_
    refine Post.weak (F' := [(0, _), (1, _), (3, _), (4, _), (5, _), (6, _), (7, _), (8, _), (9, _), (10, _), (18, _)]) ⟨rfl, rfl, rfl, rfl, rfl, rfl, rfl, rfl, rfl, rfl, rfl, trivial⟩ ?_
    refine Post.then_ ?_
    refine Cd.block ?_
    refine Cd.seq ?_
    refine Cd.region ?_
    refine Seq.val (Runs.loadB rfl rfl Try.underlying99 rfl k9 rfl) rfl rfl rfl ?_
    refine Seq.val (Runs.nilCheck rfl rfl) rfl rfl rfl ?_
    refine Seq.val (Runs.fieldB 3 rfl rfl Try.underlying141 rfl (by kernel_rfl)) rfl rfl rfl ?_
    refine Seq.val (Runs.loadB rfl rfl Try.underlying4 rfl k99 rfl) rfl rfl rfl ?_
    refine Seq.val (Runs.assign rfl rfl) rfl rfl rfl ?_
    refine Seq.nil ?_
    refine Post.weak (F' := [(0, _), (1, _), (3, _), (4, _), (5, _), (6, _), (7, _), (8, _), (9, _), (10, _), (18, _), (29, _)]) ⟨rfl, rfl, rfl, rfl, rfl, rfl, rfl, rfl, rfl, rfl, rfl, rfl, trivial⟩ ?_
    refine Post.then_ ?_
    refine Cd.condF rfl rfl ?_
    refine Cd.seq ?_
    refine Cd.region ?_
    refine Seq.val (Runs.move rfl rfl) rfl rfl rfl ?_
    refine Seq.val (Runs.not rfl rfl) rfl rfl rfl ?_
    refine Seq.val (Runs.assign rfl rfl) rfl rfl rfl ?_
    refine Seq.nil ?_
    refine Post.weak (F' := [(0, _), (1, _), (3, _), (4, _), (5, _), (6, _), (7, _), (8, _), (9, _), (10, _), (18, _), (29, _), (34, _)]) ⟨rfl, rfl, rfl, rfl, rfl, rfl, rfl, rfl, rfl, rfl, rfl, rfl, rfl, trivial⟩ ?_
    refine Post.then_ ?_
    refine Cd.cond rfl (fun h => ?_) (fun h => ?_)
    · have hq : q ≠ (lexAll l).1.length := by simpa using h
      have hpa : parAt l (Rs.ok x q) = (endPos l q, 11) := by unfold parAt; rw [if_neg (by omega), h2]; exact if_neg hq
      have hwf := fun W (hb : Below w6.heap.size w6 W) => word_any K hKok q d6 false W (hp6.step hKok.le hb)
      refine Cd.seq ?_
      refine Cd.region ?_
      refine Seq.val (Runs.loadB rfl rfl Try.underlying99 rfl k9 rfl) rfl rfl rfl ?_
      refine Seq.call (Enters.func rfl rfl rfl (run_enter Try.func108 (by kernel_rfl) rfl)) rfl rfl rfl (hwf _ bel) ?_
      rintro e w7 ⟨rfl, hb7⟩
      refine ⟨_, rfl, ?_⟩
      replace bel := bel.step hb7
      replace k9 := k9.step hb7
      replace k99 := k99.step hb7
      refine Seq.val (Runs.field rfl rfl (run_field_Word _ _ _ _ _)) rfl rfl rfl ?_
      refine Seq.val (Runs.assign rfl rfl) rfl rfl rfl ?_
      refine Seq.val (Runs.assign rfl rfl) rfl rfl rfl ?_
      refine Seq.nil ?_
      refine Post.weak (F' := [(0, _), (1, _), (3, _), (4, _), (5, _), (6, _), (7, _), (8, _), (9, _), (10, _), (18, _), (29, _), (34, _)]) ⟨rfl, rfl, rfl, rfl, rfl, rfl, rfl, rfl, rfl, rfl, rfl, rfl, rfl, trivial⟩ ?_
      refine Post.then_ ?_
      refine Cd.ret ?_
      refine Post.block_ret ?_
      refine Post.then_ret ?_
      refine Post.end2 rfl rfl rfl (.inl rfl) ?_
      unfold ParR
      rw [hpa]
      refine ⟨bfin.trans (bel.mono (by have := bfin.size; omega)), kfin.step bel, ?_, fun h => by cases h⟩
      rw [← hpos]
    · have hq : q = (lexAll l).1.length := by simpa using h
      have hpa : parAt l (Rs.ok x q) = (0, 0) := by unfold parAt; rw [if_neg (by omega), h2]; exact if_pos hq
      refine Cd.skip ?_
      refine Post.block_normal ?_
      refine Post.then_ ?_
      refine Cd.seq ?_
      refine Cd.region ?_
      refine Seq.val (Runs.assign rfl rfl) rfl rfl rfl ?_
      refine Seq.val (Runs.assign rfl rfl) rfl rfl rfl ?_
      refine Seq.nil ?_
      refine Post.weak (F' := [(0, _), (1, _), (3, _), (4, _), (5, _), (6, _), (7, _), (8, _), (9, _), (10, _), (18, _), (29, _), (34, _)]) ⟨rfl, rfl, rfl, rfl, rfl, rfl, rfl, rfl, rfl, rfl, rfl, rfl, rfl, trivial⟩ ?_
      refine Post.then_ ?_
      refine Cd.ret ?_
      refine Post.end2 rfl rfl rfl (.inl rfl) ?_
      unfold ParR
      rw [hpa]
      exact ⟨bfin.trans (bel.mono (by have := bfin.size; omega)), kfin.step bel, rfl, fun _ => ⟨x, q, rfl, hov⟩⟩
end Go.Proofs.Ytijaldpmpjapiaa

namespace Go.Proofs.Ytijaldpmpjapiaa
open Go.RowKit

/-- A term stands in a block, its parts above a bound. -/
def InT (gt : Nat) (W0 : World) (x : Tm) (W : World) : Prop := ∃ (S : Nat → Prop) (v : Value), Blk W gt 57 v.cells ∧ RepT W S x v ∧ ∀ b, S b → W0.heap.size ≤ b ∧ b < W.heap.size
theorem parseC_any (K : Ctx) (hK : K.Ok) (n gt h : Nat) (W : World) (pw : PW K W 0 0 false) (kt : Blk W gt 57 #[.int .i64 0, .string { data := #[] }, .slice none 0 0, .slice none 0 0]) (hg : gt < K.g) (hh : h ≤ gt) (hKA : ∀ ad, K.A = some ad → ad.block ≠ gt) (hne : fuelT K.ws n 0 0 ≠ .out) :
    Calls Try.prog 65 #[.pointer (some ⟨K.g, 0, none⟩), .pointer (some ⟨gt, 0, none⟩)] W (PRk K h W (fuelT K.ws n 0 0) (InT gt W)) := by
  have hcl := hasT_all K hK n 0 0 W pw hne
  have hlt := pw.blk.lt
  have hle := hK.le
  have bel := Below.refl W.heap.size W
  refine Calls.start 5 Try.func65 rfl rfl rfl ?_
  refine Cd.region ?_
  refine Seq.val (Runs.move rfl rfl) rfl rfl rfl ?_
  rcases Rs.ok_or hne with ⟨q, ov, hr⟩ | ⟨x, q, hr⟩
  · rw [hr] at hcl ⊢
    refine Seq.callB (Enters.func rfl rfl rfl (run_enter Try.func66 (by kernel_rfl) rfl)) rfl hcl ?_
    rintro e w6 ⟨hf, rfl, d6, hp6⟩
    refine ⟨_, rfl, fun a ha => ⟨ha.defers, ?_⟩⟩
    exact ⟨hf, rfl, d6, hp6⟩
  rw [hr] at hcl ⊢
  refine Seq.call (Enters.func rfl rfl rfl (run_enter Try.func66 (by kernel_rfl) rfl)) rfl rfl rfl (hcl) ?_
  rintro e wq ⟨hf, v, rfl, pwq, S, hrep, hS⟩
  refine ⟨_, rfl, ?_⟩
  have kp0 := (Kp.refl W).fz pw.blk hf
  have k98 := kt.fz hf (by omega)
  have hs98 := k98.lt
  have k98' := k98
  obtain ⟨A, c, A', c', rfl⟩ := hrep.form
  have hq := pwq.blk.lt
  clear bel
  have bel := Below.refl wq.heap.size wq
  refine Seq.storeN rfl rfl rfl rfl (m := 4) (by kernel_rfl) rfl (by repeat' first | exact trivial | apply And.intro | rfl | assumption) k98 (by simp [Value.cells]) rfl rfl ?_
  intro w1 pw1
  replace k98 := pw1.blk
  refine Seq.nil ?_
  refine Post.weak (F' := [(0, _), (1, _)]) ⟨rfl, rfl, trivial⟩ ?_
  refine Post.end0 rfl (.inr rfl) ?_
  have hsz := pw1.size
  have hbl : ∀ k, k ≠ gt → k < wq.heap.size → w1.heap[k]? = wq.heap[k]? := fun k hk hl => pw1.grown.block k hl (fun e => hk (by injection e))
  have hrd : Reads w1 K.B 4 K.A K.ws.length (wdCells K.ws) := ⟨pwq.rd.1, fun h0 => by
    obtain ⟨ad, e1, e2, e3⟩ := pwq.rd.2 h0
    exact ⟨ad, e1, e2, fun j u hu => (World.cell?_of_block (by rw [block_of_add]; exact hbl _ (hKA ad e1) (by omega))).trans (e3 j u hu)⟩⟩
  have k98z : Blk w1 gt 57 (Value.agg #[Value.int .i64 x.op, Value.string (strOf x.name), Value.slice A x.exprs.length c, Value.slice A' x.terms.length c']).cells := k98
  have kgz : Blk w1 K.g 141 _ := pwq.blk.put pw1 (by omega)
  exact ⟨⟨pw1.grown.os.trans hf.os, pw1.grown.tape.trans hf.tape, pw1.grown.output.trans hf.output, by have := hf.size; omega, fun k hk hne => (hbl k (by omega) (by omega)).trans (hf.block k (by omega) hne)⟩, kp0.put k98' pw1 trivial, ⟨_, rfl⟩, ⟨kgz, hrd, pwq.p_le, pwq.d_le⟩, S, _, k98z, hrep.mono (fun _ h => h) (fun a ha => World.cell?_of_block (hbl _ (by have := (hS _ ha).1; have := kt.lt; omega) (hS _ ha).2)), fun b hb => ⟨(hS b hb).1, by have := (hS b hb).2; omega⟩⟩
end Go.Proofs.Ytijaldpmpjapiaa

namespace Go.Proofs.Ytijaldpmpjapiaa
open Go.RowKit

theorem rightExpr_all (e : Ex) (B : Nat) (v : Value) (w : World) (hrep : Rep w B e v) (hB : B ≤ w.heap.size) : Calls Try.prog 41 #[v] w fun en w' => en = .returned (.bool (decide (e.nodes ≤ 200) && decide (e.depth ≤ 16) && builtB e)) ∧ Grow w w' := by
  have hs := fun W (hb : Below w.heap.size w W) => sizeExpr_all e.nodes e 0 B v W (Nat.le_refl _) (by omega) (hrep.below (hb.mono hB)) (Nat.le_trans hB hb.size)
  have hbt := fun W (hb : Below w.heap.size w W) => builtExpr_any e.nodes e B v W (Nat.le_refl _) (hrep.below (hb.mono hB)) (Nat.le_trans hB hb.size)
  have hc := szF_cnt e
  have hdn := e.depth_nodes
  have hsz := szF_Sz e 0
  have hres : (decide (e.nodes ≤ 200) && decide (e.depth ≤ 16)) = (decide ((szF e 0).1 ≤ 200) && decide ((szF e 0).2 ≤ 16)) := by
    obtain ⟨c1, c2⟩ := hc
    rw [Bool.eq_iff_iff]
    simp only [Bool.and_eq_true, decide_eq_true_eq]
    constructor
    · rintro ⟨h1, h2⟩
      rw [c2 (by omega)]
      omega
    · rintro ⟨h1, h2⟩
      have h3 : e.nodes ≤ 200 := by omega
      rw [c2 (by omega)] at h2
      omega
  rw [hres]
  obtain ⟨A, c, rfl, -⟩ := hrep.open
  have bel := Below.refl w.heap.size w
  generalize (szF e 0) = s at *
  refine Calls.start 10 Try.func41 rfl rfl rfl ?_
  refine Cd.seq ?_
  refine Cd.region ?_
  refine Seq.box rfl rfl rfl rfl rfl ?_
  intro g1 w1 n1
  have e1 := Nat.le_trans bel.size n1.ge
  replace bel := bel.step n1.below
  have k1 := n1.blk
  refine Seq.val (Runs.assign rfl rfl) rfl rfl rfl ?_
  refine Seq.nil ?_
  refine Post.weak (F' := [(0, _), (1, _), (2, _)]) ⟨rfl, rfl, rfl, trivial⟩ ?_
  refine Post.then_ ?_
  refine Cd.seq ?_
  refine Cd.region ?_
  refine Seq.val (Runs.loadW rfl rfl Try.underlying35 rfl k1 (m := 4) (by kernel_rfl) rfl) rfl rfl rfl ?_
  refine Seq.call (Enters.func rfl rfl rfl (run_enter Try.func75 (by kernel_rfl) rfl)) rfl rfl rfl (hs _ bel) ?_
  rintro en w5 ⟨rfl, hb5⟩
  refine ⟨_, rfl, ?_⟩
  replace bel := bel.step hb5
  replace k1 := k1.step hb5
  refine Seq.call (Enters.func rfl rfl rfl (run_enter Try.func68 (by kernel_rfl) rfl)) rfl rfl rfl (szSmall_any s.1 s.2 _) ?_
  rintro en w6 ⟨rfl, hb6⟩
  refine ⟨_, rfl, ?_⟩
  replace bel := bel.step hb6
  replace k1 := k1.step hb6
  refine Seq.val (Runs.move rfl rfl) rfl rfl rfl ?_
  refine SeqC.start ?_
  refine SeqC.open rfl rfl rfl rfl rfl rfl rfl (fun hcx => Runs.loadW rfl rfl Try.underlying35 rfl k1 (m := 4) (by kernel_rfl) rfl) ?_
  refine SeqC.nextC rfl rfl rfl rfl rfl rfl rfl (fun hcx => Enters.func rfl rfl rfl (run_enter Try.func76 (by kernel_rfl) rfl)) (fun hcx => hbt _ bel) ?_
  intro w2 hw2
  replace bel := bel.step hw2
  replace k1 := k1.step hw2
  refine SeqC.and rfl rfl rfl rfl rfl rfl rfl ?_
  refine Seq.val (Runs.assign rfl rfl) rfl rfl rfl ?_
  refine Seq.nil ?_
  refine Post.weak (F' := [(0, _), (1, _), (2, _)]) ⟨rfl, rfl, rfl, trivial⟩ ?_
  refine Post.then_ ?_
  refine Cd.ret ?_
  refine Post.end1 rfl rfl (.inl rfl) ?_
  exact ⟨ret1 (bool_eq (by cases (decide (s.1 ≤ 200) && decide (s.2 ≤ 16)) <;> rfl)), bel⟩
theorem right_all (t : Tm) (B : Nat) (v : Value) (w : World) (hrep : RepB w B t v) (hB : B ≤ w.heap.size) : Calls Try.prog 34 #[v] w fun en w' => en = .returned (.bool (rightT t)) ∧ Grow w w' := by
  have hs := fun W (hb : Below w.heap.size w W) => sizeTerm_all t.nodes t 0 B v W (Nat.le_refl _) (by omega) (hrep.below (hb.mono hB)) (Nat.le_trans hB hb.size)
  have hbt := fun W (hb : Below w.heap.size w W) => built_any t.nodes t B v W (Nat.le_refl _) (hrep.below (hb.mono hB)) (Nat.le_trans hB hb.size)
  have hc := szU_cnt t
  have hdn := t.depth_nodes
  have hres : (decide (t.nodes ≤ 200) && decide (t.depth ≤ 16)) = (decide ((szU t 0).1 ≤ 200) && decide ((szU t 0).2 ≤ 16)) := by
    obtain ⟨c1, c2⟩ := hc
    rw [Bool.eq_iff_iff]
    simp only [Bool.and_eq_true, decide_eq_true_eq]
    constructor
    · rintro ⟨h1, h2⟩
      rw [c2 (by omega)]
      omega
    · rintro ⟨h1, h2⟩
      have h3 : t.nodes ≤ 200 := by omega
      rw [c2 (by omega)] at h2
      omega
  unfold rightT
  rw [hres]
  obtain ⟨A, c, A', c', rfl, -⟩ := hrep.open
  have bel := Below.refl w.heap.size w
  generalize (szU t 0) = s at *
  refine Calls.start 10 Try.func34 rfl rfl rfl ?_
  refine Cd.seq ?_
  refine Cd.region ?_
  refine Seq.box rfl rfl rfl rfl rfl ?_
  intro g1 w1 n1
  have e1 := Nat.le_trans bel.size n1.ge
  replace bel := bel.step n1.below
  have k1 := n1.blk
  refine Seq.val (Runs.assign rfl rfl) rfl rfl rfl ?_
  refine Seq.nil ?_
  refine Post.weak (F' := [(0, _), (1, _), (2, _)]) ⟨rfl, rfl, rfl, trivial⟩ ?_
  refine Post.then_ ?_
  refine Cd.seq ?_
  refine Cd.region ?_
  refine Seq.val (Runs.loadW rfl rfl Try.underlying57 rfl k1 (m := 4) (by kernel_rfl) rfl) rfl rfl rfl ?_
  refine Seq.call (Enters.func rfl rfl rfl (run_enter Try.func67 (by kernel_rfl) rfl)) rfl rfl rfl (hs _ bel) ?_
  rintro en w5 ⟨rfl, hb5⟩
  refine ⟨_, rfl, ?_⟩
  replace bel := bel.step hb5
  replace k1 := k1.step hb5
  refine Seq.call (Enters.func rfl rfl rfl (run_enter Try.func68 (by kernel_rfl) rfl)) rfl rfl rfl (szSmall_any s.1 s.2 _) ?_
  rintro en w6 ⟨rfl, hb6⟩
  refine ⟨_, rfl, ?_⟩
  replace bel := bel.step hb6
  replace k1 := k1.step hb6
  refine Seq.val (Runs.move rfl rfl) rfl rfl rfl ?_
  refine SeqC.start ?_
  refine SeqC.open rfl rfl rfl rfl rfl rfl rfl (fun hcx => Runs.loadW rfl rfl Try.underlying57 rfl k1 (m := 4) (by kernel_rfl) rfl) ?_
  refine SeqC.nextC rfl rfl rfl rfl rfl rfl rfl (fun hcx => Enters.func rfl rfl rfl (run_enter Try.func69 (by kernel_rfl) rfl)) (fun hcx => hbt _ bel) ?_
  intro w2 hw2
  replace bel := bel.step hw2
  replace k1 := k1.step hw2
  refine SeqC.and rfl rfl rfl rfl rfl rfl rfl ?_
  refine Seq.val (Runs.assign rfl rfl) rfl rfl rfl ?_
  refine Seq.nil ?_
  refine Post.weak (F' := [(0, _), (1, _), (2, _)]) ⟨rfl, rfl, rfl, trivial⟩ ?_
  refine Post.then_ ?_
  refine Cd.ret ?_
  refine Post.end1 rfl rfl (.inl rfl) ?_
  exact ⟨ret1 (bool_eq (by cases (decide (s.1 ≤ 200) && decide (s.2 ≤ 16)) <;> rfl)), bel⟩
end Go.Proofs.Ytijaldpmpjapiaa

namespace Go.Proofs.Ytijaldpmpjapiaa

section
variable {α β : Type}
/-- What is taken is more than nothing. -/
def Mono (f : Nat → Nat → Rs α) : Prop := ∀ p d a q, f p d = .ok a q → p < q
/-- From a place on it is within the fuel. -/
def Def (f : Nat → Nat → Rs α) (m : Nat) : Prop := ∀ p d, m ≤ p → f p d ≠ .out
theorem Def.up {f : Nat → Nat → Rs α} {m m' : Nat} (h : Def f m) (hm : m ≤ m') : Def f m' := fun p d hp => h p d (by omega)
theorem Rs.bind_eq_ok {r : Rs α} {f : α → Nat → Rs β} {b : β} {q : Nat} (h : r.bind f = .ok b q) : ∃ a p, r = .ok a p ∧ f a p = .ok b q := by
  cases r with
  | out => cases h
  | bad p o => cases h
  | ok a p => exact ⟨a, p, rfl, h⟩
theorem Rs.bind_ne_out {r : Rs α} {f : α → Nat → Rs β} (h : r ≠ .out) (hf : ∀ a p, r = .ok a p → f a p ≠ .out) : r.bind f ≠ .out := by
  cases r with
  | out => exact absurd rfl h
  | bad p o => exact fun h => by cases h
  | ok a p => exact hf a p rfl
theorem signQ_ok {ws : List Wd} {s : List Nat} {p q : Nat} {u : Unit} (h : signQ ws s p = .ok u q) : q = p + 1 ∧ isS ws p s = true := by
  unfold signQ at h
  split at h
  · rename_i hs
    injection h with _ h
    exact ⟨h.symm, hs⟩
  · cases h
theorem signQ_def (ws : List Wd) (s : List Nat) (p : Nat) : signQ ws s p ≠ .out := by
  unfold signQ
  split <;> exact fun h => by cases h
theorem enterP_ok {p d q : Nat} {u : Unit} (h : enterP p d = .ok u q) : q = p ∧ d < 64 := by
  unfold enterP at h
  split at h
  · cases h
  · injection h with _ h
    exact ⟨h.symm, by omega⟩
theorem enterP_def (p d : Nat) : enterP p d ≠ .out := by
  unfold enterP
  split <;> exact fun h => by cases h
theorem partsP_mono (ws : List Wd) : ∀ (ones : List (Nat → Nat → Rs α)), (∀ f ∈ ones, Mono f) → ∀ first p d xs q, partsP ws ones first p d = .ok xs q → p ≤ q
  | [], _, first, p, d, xs, q, h => by injection h with _ h; omega
  | f :: r, hm, first, p, d, xs, q, h => by
    rw [partsP] at h
    obtain ⟨u, p1, h1, h⟩ := Rs.bind_eq_ok h
    obtain ⟨x, p2, h2, h⟩ := Rs.bind_eq_ok h
    obtain ⟨ys, p3, h3, h⟩ := Rs.bind_eq_ok h
    injection h with _ h
    have e1 : p ≤ p1 := by
      split at h1
      · injection h1 with _ h1; omega
      · have := (signQ_ok h1).1; omega
    have e2 := hm f (by simp) _ _ _ _ h2
    have e3 := partsP_mono ws r (fun g hg => hm g (by simp [hg])) _ _ _ _ _ h3
    omega
theorem partsP_def (ws : List Wd) (m : Nat) : ∀ (ones : List (Nat → Nat → Rs α)), (∀ f ∈ ones, Mono f ∧ Def f m) → ∀ first p d, m ≤ p → partsP ws ones first p d ≠ .out
  | [], _, first, p, d, _ => fun h => by cases h
  | f :: r, hm, first, p, d, hp => by
    rw [partsP]
    refine Rs.bind_ne_out ?_ fun u p1 h1 => ?_
    · split
      · exact fun h => by cases h
      · exact signQ_def _ _ _
    have e1 : p ≤ p1 := by
      split at h1
      · injection h1 with _ h1; omega
      · have := (signQ_ok h1).1; omega
    refine Rs.bind_ne_out ((hm f (by simp)).2 _ _ (by omega)) fun x p2 h2 => ?_
    have e2 := (hm f (by simp)).1 _ _ _ _ h2
    refine Rs.bind_ne_out (partsP_def ws m r (fun g hg => hm g (by simp [hg])) _ _ _ (by omega)) fun ys p3 h3 => ?_
    exact fun h => by cases h
theorem withinP_mono (ws : List Wd) (ones : List (Nat → Nat → Rs α)) (hm : ∀ f ∈ ones, Mono f) {p d : Nat} {xs : List α} {q : Nat} (h : withinP ws ones p d = .ok xs q) : p + 2 ≤ q := by
  unfold withinP at h
  obtain ⟨u, p1, h1, h⟩ := Rs.bind_eq_ok h
  obtain ⟨u2, p2, h2, h⟩ := Rs.bind_eq_ok h
  obtain ⟨ys, p3, h3, h⟩ := Rs.bind_eq_ok h
  obtain ⟨u3, p4, h4, h⟩ := Rs.bind_eq_ok h
  injection h with _ h
  have := (signQ_ok h1).1
  have := (enterP_ok h2).1
  have := partsP_mono ws ones hm _ _ _ _ _ h3
  have := (signQ_ok h4).1
  omega
theorem withinP_def (ws : List Wd) (ones : List (Nat → Nat → Rs α)) {p : Nat} (d : Nat) (hm : ∀ f ∈ ones, Mono f ∧ Def f (p + 1)) : withinP ws ones p d ≠ .out := by
  unfold withinP
  refine Rs.bind_ne_out (signQ_def _ _ _) fun u p1 h1 => ?_
  refine Rs.bind_ne_out (enterP_def _ _) fun u2 p2 h2 => ?_
  have := (signQ_ok h1).1
  have := (enterP_ok h2).1
  refine Rs.bind_ne_out (partsP_def ws (p + 1) ones hm _ _ _ (by omega)) fun xs p3 h3 => ?_
  refine Rs.bind_ne_out (signQ_def _ _ _) fun u3 p4 h4 => ?_
  exact fun h => by cases h
theorem nameP_eq {ws : List Wd} {p q : Nat} {x : List Nat} (h : nameP ws p = .ok x q) : q = p + 1 ∧ x = (wAt ws p).text ∧ (wAt ws p).kind = 3 ∧ reservedB (wAt ws p).text = false := by
  unfold nameP at h
  split at h
  · rename_i hs
    injection h with h1 h
    exact ⟨h.symm, h1.symm, hs.1, hs.2⟩
  · cases h
theorem nameP_def (ws : List Wd) (p : Nat) : nameP ws p ≠ .out := by
  unfold nameP
  split <;> exact fun h => by cases h
theorem calledP_mono {ws : List Wd} {E0 : Nat → Nat → Rs Ex} (hE : Mono E0) {op : Int} {k p d : Nat} {x : Ex} {q : Nat} (h : calledP ws E0 op k p d = .ok x q) : p < q := by
  unfold calledP at h
  obtain ⟨xs, p1, h1, h⟩ := Rs.bind_eq_ok h
  injection h with _ h
  have := withinP_mono ws _ (fun f hf => (List.mem_replicate.1 hf).2 ▸ hE) h1
  omega
theorem calledP_def {ws : List Wd} {E0 : Nat → Nat → Rs Ex} (hE : Mono E0) {op : Int} {k p d : Nat} (hd : Def E0 (p + 1)) : calledP ws E0 op k p d ≠ .out := by
  unfold calledP
  refine Rs.bind_ne_out (withinP_def ws _ d fun f hf => (List.mem_replicate.1 hf).2 ▸ ⟨hE, hd.up (by omega)⟩) fun xs p1 h1 => ?_
  exact fun h => by cases h
theorem atomP_mono {ws : List Wd} {E0 : Nat → Nat → Rs Ex} (hE : Mono E0) : Mono (atomP ws E0) := by
  intro p d x q h
  unfold atomP at h
  repeat' split at h
  all_goals first
    | exact calledP_mono hE h
    | (injection h with _ h; omega)
    | (obtain ⟨nm, p1, h1, h⟩ := Rs.bind_eq_ok h; injection h with _ h; have := (nameP_eq h1).1; omega)
    | (obtain ⟨xs, p1, h1, h⟩ := Rs.bind_eq_ok h; injection h with _ h; have := withinP_mono ws _ (fun f hf => (List.mem_singleton.1 hf) ▸ hE) h1; omega)
    | cases h
theorem atomP_def {ws : List Wd} {E0 : Nat → Nat → Rs Ex} (hE : Mono E0) {p d : Nat} (hd : Def E0 (p + 1)) : atomP ws E0 p d ≠ .out := by
  unfold atomP
  repeat' split
  all_goals first
    | exact calledP_def hE hd
    | exact fun h => by cases h
    | exact Rs.bind_ne_out (nameP_def _ _) fun nm p1 h1 => fun h => by cases h
    | exact Rs.bind_ne_out (withinP_def ws _ d fun f hf => (List.mem_singleton.1 hf) ▸ ⟨hE, hd⟩) fun xs p1 h1 => fun h => by cases h
theorem aheadP_mono {S : Nat → Nat → Rs Ex} (hS : Mono S) (op : Int) : Mono (aheadP S op) := by
  intro p d x q h
  unfold aheadP at h
  obtain ⟨u, p1, h1, h⟩ := Rs.bind_eq_ok h
  obtain ⟨y, p2, h2, h⟩ := Rs.bind_eq_ok h
  injection h with _ h
  have := (enterP_ok h1).1
  have := hS _ _ _ _ h2
  omega
theorem aheadP_def {S : Nat → Nat → Rs Ex} (op : Int) {p d : Nat} (hS : Def S (p + 1)) : aheadP S op p d ≠ .out := by
  unfold aheadP
  refine Rs.bind_ne_out (enterP_def _ _) fun u p1 h1 => ?_
  have := (enterP_ok h1).1
  exact Rs.bind_ne_out (hS _ _ (by omega)) fun y p2 h2 => fun h => by cases h
theorem unaryP_mono {ws : List Wd} {S E0 : Nat → Nat → Rs Ex} (hS : Mono S) (hE : Mono E0) : Mono (unaryP ws S E0) := by
  intro p d x q h
  unfold unaryP at h
  split at h
  · exact aheadP_mono hS _ _ _ _ _ h
  · split at h
    · exact aheadP_mono hS _ _ _ _ _ h
    · exact atomP_mono hE _ _ _ _ h
theorem unaryP_def {ws : List Wd} {S E0 : Nat → Nat → Rs Ex} (hE : Mono E0) {p d : Nat} (hS : Def S (p + 1)) (hd : Def E0 (p + 1)) : unaryP ws S E0 p d ≠ .out := by
  unfold unaryP
  split
  · exact aheadP_def _ hS
  · split
    · exact aheadP_def _ hS
    · exact atomP_def hE hd
end
/-- What all parts of the way of going have. -/
structure PMono (f : PF) : Prop where
  E : ∀ lvl, Mono (f.E lvl)
  L : ∀ lvl x p d a q, f.L lvl x p d = .ok a q → p ≤ q
  S : Mono f.S
theorem loopP_mono {ws : List Wd} {f : PF} (h : PMono f) {lvl : Nat} {x : Ex} {p d : Nat} {a : Ex} {q : Nat} (hl : loopP ws f lvl x p d = .ok a q) : p ≤ q := by
  unfold loopP at hl
  cases ho : opAt ws lvl p with
  | none => rw [ho] at hl; injection hl with _ hl; omega
  | some op =>
    rw [ho] at hl
    obtain ⟨r, p1, h1, hl⟩ := Rs.bind_eq_ok hl
    have := h.E _ _ _ _ _ h1
    split at hl
    · injection hl with _ hl; omega
    · have := h.L _ _ _ _ _ _ hl; omega
theorem levN_mono {L : Nat → Ex → Nat → Nat → Rs Ex} {S : Nat → Nat → Rs Ex} (hL : ∀ lvl x p d a q, L lvl x p d = .ok a q → p ≤ q) (hS : Mono S) : ∀ j, Mono (levN L S j)
  | 0 => hS
  | j + 1 => fun p d a q h => by
    rw [levN] at h
    obtain ⟨x, p1, h1, h⟩ := Rs.bind_eq_ok h
    have := levN_mono hL hS j _ _ _ _ h1
    have := hL _ _ _ _ _ _ h
    omega
theorem fuelP_mono (ws : List Wd) : ∀ n, PMono (fuelP ws n)
  | 0 => ⟨fun _ _ _ _ _ h => (by cases h), fun _ _ _ _ _ _ h => (by cases h), fun _ _ _ _ h => (by cases h)⟩
  | n + 1 => by
    have ih := fuelP_mono ws n
    have hL : ∀ lvl x p d a q, loopP ws (fuelP ws n) lvl x p d = .ok a q → p ≤ q := fun lvl x p d a q h => loopP_mono ih h
    have hS := unaryP_mono (ws := ws) ih.S (ih.E 0)
    exact ⟨fun lvl => levN_mono hL hS _, hL, hS⟩
theorem opAt_lt {ws : List Wd} {lvl p : Nat} {op : Int} (h : opAt ws lvl p = some op) : p < ws.length := by
  rcases Nat.lt_or_ge p ws.length with h1 | h1
  · exact h1
  · unfold opAt wAt at h
    rw [List.getD_eq_getElem?_getD, List.getElem?_eq_none h1] at h
    simp at h
/-- With fuel for all words that are left it is within the fuel. -/
structure PDef (f : PF) (m : Nat) : Prop where
  E : ∀ lvl, Def (f.E lvl) m
  L : ∀ lvl x p d, m ≤ p → f.L lvl x p d ≠ .out
  S : Def f.S m
theorem loopP_def {ws : List Wd} {f : PF} (hm : PMono f) {m : Nat} (h : PDef f (m + 1)) {lvl : Nat} {x : Ex} {p d : Nat} (hp : m ≤ p) : loopP ws f lvl x p d ≠ .out := by
  unfold loopP
  cases ho : opAt ws lvl p with
  | none => exact fun h => by cases h
  | some op =>
    refine Rs.bind_ne_out (h.E _ _ _ (by omega)) fun r p1 h1 => ?_
    have := hm.E _ _ _ _ _ h1
    split
    · exact fun h => by cases h
    · exact h.L _ _ _ _ (by omega)
theorem levN_def {L : Nat → Ex → Nat → Nat → Rs Ex} {S : Nat → Nat → Rs Ex} {m : Nat} (hLm : ∀ lvl x p d a q, L lvl x p d = .ok a q → p ≤ q) (hSm : Mono S) (hL : ∀ lvl x p d, m ≤ p → L lvl x p d ≠ .out) (hS : Def S m) : ∀ j, Def (levN L S j) m
  | 0 => hS
  | j + 1 => fun p d hp => by
    rw [levN]
    refine Rs.bind_ne_out (levN_def hLm hSm hL hS j _ _ hp) fun x p1 h1 => ?_
    have := levN_mono hLm hSm j _ _ _ _ h1
    exact hL _ _ _ _ (by omega)
theorem wAt_end {ws : List Wd} {p : Nat} (h : ws.length ≤ p) : wAt ws p = ⟨-1, [], 0, 0⟩ := by
  unfold wAt
  rw [List.getD_eq_getElem?_getD, List.getElem?_eq_none h]
  rfl
theorem unaryP_end {ws : List Wd} {p : Nat} (h : ws.length ≤ p) (S E0 : Nat → Nat → Rs Ex) (d : Nat) : unaryP ws S E0 p d = .bad p false := by
  unfold unaryP isS atomP
  rw [wAt_end h]
  rfl
theorem loopP_end {ws : List Wd} {p : Nat} (h : ws.length ≤ p) (f : PF) (lvl : Nat) (x : Ex) (d : Nat) : loopP ws f lvl x p d = .ok x p := by
  unfold loopP
  cases ho : opAt ws lvl p with
  | none => rfl
  | some op => have := opAt_lt ho; omega
theorem fuelP_def (ws : List Wd) : ∀ n m, ws.length < n + 1 + m → PDef (fuelP ws (n + 1)) m
  | 0, m, h => by
    have im := fuelP_mono ws 0
    have hLm : ∀ lvl x p d a q, loopP ws (fuelP ws 0) lvl x p d = .ok a q → p ≤ q := fun lvl x p d a q h => loopP_mono im h
    have hSm := unaryP_mono (ws := ws) im.S (im.E 0)
    have hL : ∀ lvl x p d, m ≤ p → loopP ws (fuelP ws 0) lvl x p d ≠ .out := fun lvl x p d hp => by rw [loopP_end (by omega)]; exact fun h => by cases h
    have hS : Def (unaryP ws (fuelP ws 0).S ((fuelP ws 0).E 0)) m := fun p d hp => by rw [unaryP_end (by omega)]; exact fun h => by cases h
    exact ⟨fun lvl => levN_def hLm hSm hL hS _, hL, hS⟩
  | n + 1, m, h => by
    have ih := fuelP_def ws n (m + 1) (by omega)
    have im := fuelP_mono ws (n + 1)
    have hLm : ∀ lvl x p d a q, loopP ws (fuelP ws (n + 1)) lvl x p d = .ok a q → p ≤ q := fun lvl x p d a q h => loopP_mono im h
    have hSm := unaryP_mono (ws := ws) im.S (im.E 0)
    have hL : ∀ lvl x p d, m ≤ p → loopP ws (fuelP ws (n + 1)) lvl x p d ≠ .out := fun lvl x p d hp => loopP_def im ih hp
    have hS : Def (unaryP ws (fuelP ws (n + 1)).S ((fuelP ws (n + 1)).E 0)) m := fun p d hp => unaryP_def (im.E 0) (ih.S.up (by omega)) ((ih.E 0).up (by omega))
    exact ⟨fun lvl => levN_def hLm hSm hL hS _, hL, hS⟩
theorem Rs.map_ok {α β : Type} {r : Rs α} {f : α → β} {b : β} {q : Nat} (h : r.map f = .ok b q) : ∃ a, r = .ok a q ∧ b = f a := by
  unfold Rs.map at h
  obtain ⟨a, p, h1, h⟩ := Rs.bind_eq_ok h
  injection h with h2 h3
  exact ⟨a, by rw [h1, h3], h2.symm⟩
theorem onesP_mem {E0 : Nat → Nat → Rs Ex} {T : Nat → Nat → Rs Tm} {n m : Nat} {f : Nat → Nat → Rs Part} (h : f ∈ onesP E0 T n m) : f = (fun p d => (E0 p d).map .inl) ∨ f = (fun p d => (T p d).map .inr) := by
  unfold onesP at h
  rcases List.mem_append.1 h with h | h
  · exact .inl (List.mem_replicate.1 h).2
  · exact .inr (List.mem_replicate.1 h).2
theorem onesP_mono {E0 : Nat → Nat → Rs Ex} {T : Nat → Nat → Rs Tm} (hE : Mono E0) (hT : Mono T) {n m : Nat} : ∀ f ∈ onesP E0 T n m, Mono f := fun f hf p d a q h => by
  rcases onesP_mem hf with rfl | rfl
  · obtain ⟨x, h1, -⟩ := Rs.map_ok h
    exact hE _ _ _ _ h1
  · obtain ⟨x, h1, -⟩ := Rs.map_ok h
    exact hT _ _ _ _ h1
theorem onesP_def {E0 : Nat → Nat → Rs Ex} {T : Nat → Nat → Rs Tm} {k : Nat} (hE : Def E0 k) (hT : Def T k) {n m : Nat} : ∀ f ∈ onesP E0 T n m, Def f k := fun f hf p d hp => by
  rcases onesP_mem hf with rfl | rfl
  · exact Rs.bind_ne_out (hE _ _ hp) fun a q h => fun h => by cases h
  · exact Rs.bind_ne_out (hT _ _ hp) fun a q h => fun h => by cases h
theorem termP_mono {ws : List Wd} {E0 : Nat → Nat → Rs Ex} {T : Nat → Nat → Rs Tm} (hE : Mono E0) (hT : Mono T) : Mono (termP ws E0 T) := by
  intro p d x q h
  unfold termP at h
  repeat' split at h
  · cases h
  · injection h with _ h; omega
  · obtain ⟨xs, p1, h1, h⟩ := Rs.bind_eq_ok h
    injection h with _ h
    have := withinP_mono ws _ (fun f hf => (List.mem_singleton.1 hf) ▸ fun p d a q h => by have := (nameP_eq h).1; omega) h1
    omega
  · cases h
  · obtain ⟨xs, p1, h1, h⟩ := Rs.bind_eq_ok h
    injection h with _ h
    have := withinP_mono ws _ (onesP_mono hE hT) h1
    omega
theorem termP_def {ws : List Wd} {E0 : Nat → Nat → Rs Ex} {T : Nat → Nat → Rs Tm} (hE : Mono E0) (hT : Mono T) {p d : Nat} (dE : Def E0 (p + 1)) (dT : Def T (p + 1)) : termP ws E0 T p d ≠ .out := by
  unfold termP
  repeat' split
  · exact fun h => by cases h
  · exact fun h => by cases h
  · refine Rs.bind_ne_out (withinP_def ws _ d fun f hf => (List.mem_singleton.1 hf) ▸ ⟨fun p d a q h => by have := (nameP_eq h).1; omega, fun p d _ => nameP_def ws p⟩) fun xs p1 h1 => fun h => by cases h
  · exact fun h => by cases h
  · refine Rs.bind_ne_out (withinP_def ws _ d fun f hf => ⟨onesP_mono hE hT f hf, onesP_def (dE.up (by omega)) (dT.up (by omega)) f hf⟩) fun xs p1 h1 => fun h => by cases h
theorem fuelT_mono (ws : List Wd) : ∀ n, Mono (fuelT ws n)
  | 0 => fun _ _ _ _ h => (by cases h)
  | n + 1 => fun p d x q h => termP_mono ((fuelP_mono ws (n + 1)).E 0) (fuelT_mono ws n) p d x q h
theorem termP_end {ws : List Wd} {p : Nat} (h : ws.length ≤ p) (E0 : Nat → Nat → Rs Ex) (T : Nat → Nat → Rs Tm) (d : Nat) : termP ws E0 T p d = .bad p false := by
  unfold termP
  rw [wAt_end h]
  rfl
theorem fuelT_def (ws : List Wd) : ∀ n m, ws.length < n + 1 + m → Def (fuelT ws (n + 1)) m
  | 0, m, h => fun p d hp => by
    show termP ws _ _ p d ≠ .out
    rw [termP_end (by omega)]
    exact fun h => by cases h
  | n + 1, m, h => fun p d hp => by
    have hE := (fuelP_def ws (n + 1) (m + 1) (by omega)).E 0
    have hT := fuelT_def ws n (m + 1) (by omega)
    exact termP_def ((fuelP_mono ws (n + 2)).E 0) (fuelT_mono ws (n + 1)) (hE.up (by omega)) (hT.up (by omega))
/-- A text's expression, and its term: by fuel enough. -/
def exprQ (ws : List Wd) : Rs Ex := (fuelP ws (ws.length + 1)).E 0 0 0
def termQ (ws : List Wd) : Rs Tm := fuelT ws (ws.length + 1) 0 0
theorem exprQ_ne (ws : List Wd) : exprQ ws ≠ .out := (fuelP_def ws ws.length 0 (by omega)).E 0 0 0 (Nat.le_refl _)
theorem termQ_ne (ws : List Wd) : termQ ws ≠ .out := fuelT_def ws ws.length 0 (by omega) 0 0 (Nat.le_refl _)
end Go.Proofs.Ytijaldpmpjapiaa

namespace Go.Proofs.Ytijaldpmpjapiaa
open Go.RowKit

section
variable {P : Program} {n : Nat} {F : List (Nat × Value)} {w : World} {v v' : Value}
theorem Post.endC3 {fn : Func} {R : Ending → World → Prop} {e : Exit} {p q s g : Nat} {ty t : TypeId} {cs : Array Value} {dsc : TypeDesc} (hr : fn.results = #[.cell p ty, .tmp q, .tmp s]) (hl : look F p = some (.pointer (some ⟨g, 0, none⟩))) (hq : look F q = some v) (hq' : look F s = some v') (hb : Blk w g t cs) (hu : P.underlying ty = some dsc)
    (hd : (match dsc with | .struct _ | .array _ _ => true | _ => false) = true) {m : Nat} (hs : sizeIs P ty m = true) (hm : cs.size = m) (he : e = .ret ∨ e = .normal) (h : R (.returned (.tuple #[.agg cs, v, v'])) w) : Post (bodyPost P fn R) e n F w := by
  refine Post.end_ (fun a ha => ?_) he h
  · have hp' : a.tmps[p]?.getD undef = .pointer (some ⟨g, 0, none⟩) := by simp [ha.slot p _ hl]
    have e := run_loadVar_row (P := P) w g t ty cs (0, 0) dsc hb hu (by cases dsc <;> first | rfl | (simp at hd)) (by obtain ⟨inf, hi, hsz⟩ := sizeIs_spec hs; rw [hi, hm, ← hsz]; rfl)
    simp [results, hr, hp', asAddr, e, ha.slot q _ hq, ha.slot s _ hq']
end
def zeroTm : Tm := .mk 0 [] [] []
def zeroEx : Ex := .mk 0 0 [] []
theorem RepT.zero (W : World) (S : Nat → Prop) : RepT W S zeroTm (.agg #[.int .i64 0, .string (strOf []), .slice none 0 0, .slice none 0 0]) :=
  .mk (vs := []) (us := []) rfl rfl (by simp) (by simp) (by unfold I64; decide) (by simp) (by simp) (fun i e v h => by simp at h) (fun i e v h => by simp at h) (fun h => absurd rfl h) (fun h => absurd rfl h)
theorem RepE.zero (W : World) (S : Nat → Prop) : RepE W S zeroEx (.agg #[.int .i64 0, .int .i64 0, .string (strOf []), .slice none 0 0]) :=
  .mk (vs := []) rfl (by simp) (by unfold I64; decide) (by unfold I64; decide) (by simp) (by simp) (fun i e v h => by simp at h) (fun h => absurd rfl h)
/-- What Parse answers, and ParseExpr. -/
def parseT (l : List Nat) : Tm × Nat × Int := if (parAt l (termQ (lexAll l).1)).2 ≠ 0 then (zeroTm, (parAt l (termQ (lexAll l).1)).1, (parAt l (termQ (lexAll l).1)).2) else match termQ (lexAll l).1 with
  | .ok x _ => if rightT x = true then (x, 0, 0) else (zeroTm, 0, 13)
  | _ => (zeroTm, 0, 0)
theorem parAt_zero {α : Type} {l : List Nat} {r : Rs α} (h : (parAt l r).2 = 0) : (parAt l r).1 = 0 := by
  unfold parAt at h ⊢
  by_cases h4 : 4000 < l.length
  · rw [if_pos h4]
  · rw [if_neg h4] at h ⊢
    cases h2 : (lexAll l).2 with
    | some p => rw [h2] at h; cases h
    | none =>
      rw [h2] at h
      cases r with
      | out => rfl
      | bad p ov => cases ov <;> cases h
      | ok a p =>
        dsimp only at h ⊢
        split at h
        · rename_i h3; rw [if_pos h3]
        · cases h
theorem InT.kept {gt : Nat} {w W0 W W' : World} {a : Tm} {g : Nat} (h : InT gt W0 a W) (hgt : gt < w.heap.size) (h2 : w.heap.size ≤ g) (h3 : g < W0.heap.size) (h4 : W0.heap.size ≤ W.heap.size) (h5 : W.heap.size ≤ W'.heap.size) (h6 : ∀ k, k < W.heap.size → k ≠ g → W'.heap[k]? = W.heap[k]?) : InT gt w a W' := by
  obtain ⟨S, v, h7, h8, h9⟩ := h
  refine ⟨S, v, ?_, h8.mono (fun _ h => h) (fun p hp => World.cell?_of_block (h6 _ (h9 _ hp).2 (by have := (h9 _ hp).1; omega))), fun b hb => ⟨by have := (h9 b hb).1; omega, by have := (h9 b hb).2; omega⟩⟩
  unfold Blk at h7 ⊢
  rw [h6 gt (by omega) (by omega)]
  exact h7
theorem run_build_T0 (w : World) : (Instr.build 57 #[]).run Try.prog w = .ok (.agg #[.int .i64 0, .string (strOf []), .slice none 0 0, .slice none 0 0]) w := by kernel_rfl
theorem run_build_E0 (w : World) : (Instr.build 35 #[]).run Try.prog w = .ok (.agg #[.int .i64 0, .int .i64 0, .string (strOf []), .slice none 0 0]) w := by kernel_rfl
theorem parse_any (l : List Nat) (w : World) (hl : ∀ x ∈ l, x < 256) (hlen : l.length ≤ 9223372036854775807) :
    Calls Try.prog 33 #[.string (strOf l)] w fun e w' => Below w.heap.size w w' ∧ ∃ (v : Value) (S : Nat → Prop), e = .returned (.tuple #[v, .int .i64 ((parseT l).2.1 : Int), .int .i64 (parseT l).2.2]) ∧ RepT w' S (parseT l).1 v ∧ ∀ b, S b → w.heap.size ≤ b ∧ b < w'.heap.size := by
  have bel := Below.refl w.heap.size w
  refine Calls.start 27 Try.func33 rfl rfl rfl ?_
  refine Cd.seq ?_
  refine Cd.region ?_
  refine Seq.alloc rfl (run_zero zero_api_Term) rfl rfl rfl ?_
  intro g2 w1 n2
  have e2 := Nat.le_trans bel.size n2.ge
  replace bel := bel.step n2.below
  have k2 := n2.blk
  refine Seq.val (Runs.assign rfl rfl) rfl rfl rfl ?_
  refine Seq.val (Runs.assign rfl rfl) rfl rfl rfl ?_
  refine Seq.nil ?_
  refine Post.weak (F' := [(0, _), (2, _), (3, _), (4, _)]) ⟨rfl, rfl, rfl, rfl, trivial⟩ ?_
  refine Post.then_ ?_
  refine Cd.seq ?_
  refine Cd.region ?_
  refine Seq.alloc rfl (run_zero zero_api_Term) rfl rfl rfl ?_
  intro g5 w2 n5
  have e5 := Nat.le_trans bel.size n5.ge
  have l5 := Nat.lt_of_lt_of_le k2.lt n5.ge
  replace bel := bel.step n5.below
  replace k2 := k2.step n5.below
  have k5 := n5.blk
  refine Seq.nil ?_
  refine Post.weak (F' := [(0, _), (2, _), (3, _), (4, _), (5, _)]) ⟨rfl, rfl, rfl, rfl, rfl, trivial⟩ ?_
  refine Post.then_ ?_
  refine Cd.seq ?_
  refine Cd.region ?_
  refine Seq.val (Runs.move rfl rfl) rfl rfl rfl ?_
  refine Seq.val (Runs.makeFunc (v := .func (.func 65) #[] #[.pointer (some ⟨g5, 0, none⟩)]) rfl (show evL _ _ = some [] from rfl) (show evL _ _ = some [.pointer (some ⟨g5, 0, none⟩)] from rfl) rfl) rfl rfl rfl ?_
  have hg5 := k5.lt
  have hps := parsed_any l hl hlen 65 [.pointer (some ⟨g5, 0, none⟩)] g5 (termQ (lexAll l).1) (InT g5) (InT g5 w2) w2 (Nat.le_of_lt hg5) (fun args w => run_enter Try.func65 (by kernel_rfl) rfl args w) (termQ_ne _)
    (fun a W0 W W' g h1 h2 h3 h4 h5 h6 => h1.kept hg5 h2 h3 h4 h5 h6)
    (fun K hK hw h2 hg hA W hb hp => by
      have := parseC_any K hK ((lexAll l).1.length + 1) g5 g5 W hp (k5.step hb) (by omega) (Nat.le_refl _) (fun ad ha => by have := hA ad ha; omega) (by rw [hw]; exact termQ_ne _)
      rw [hw] at this
      exact this)
  refine Seq.call (Enters.func rfl rfl rfl (run_enter Try.func64 (by kernel_rfl) rfl)) rfl rfl rfl (hps) ?_
  rintro e w6 ⟨hb6, kp6, rfl, hok⟩
  refine ⟨_, rfl, ?_⟩
  have bel6 : Below w.heap.size w w6 := bel.trans (hb6.mono e5)
  have k2' : Blk w6 g2 57 _ := (show w6.heap[g2]? = w2.heap[g2]? from hb6.block g2 l5).trans k2
  have hlt6 := bel6.size
  clear bel k5 k2
  have bel := bel6
  have k2 := k2'
  have hA := parAt_zero (l := l) (r := termQ (lexAll l).1)
  obtain ⟨z, hz⟩ : ∃ z, (parAt l (termQ (lexAll l).1)).2 = z := ⟨_, rfl⟩
  obtain ⟨y, hy⟩ : ∃ y, (parAt l (termQ (lexAll l).1)).1 = y := ⟨_, rfl⟩
  rw [hz] at hok hA ⊢
  rw [hy] at hA ⊢
  by_cases hz0 : z = 0
  · obtain ⟨x, q, hx, S, v, k5, hrep, hS⟩ := hok hz0
    have hps2 : parseT l = if rightT x = true then (x, 0, 0) else (zeroTm, 0, 13) := by unfold parseT; rw [if_neg (by rw [hz]; exact fun h => h hz0), hx]
    obtain rfl := hA hz0
    subst hz0
    have hrb : RepB w6 w6.heap.size x v := hrep.mono (fun b hb => (hS b hb).2) (fun _ _ => rfl)
    obtain ⟨A, c, A', c', rfl⟩ := hrep.form
    have hri := right_all x w6.heap.size _ w6 hrb (Nat.le_refl _)
    have k5 : Blk w6 g5 57 #[.int .i64 x.op, .string (strOf x.name), .slice A x.exprs.length c, .slice A' x.terms.length c'] := k5
    generalize rightT x = b at *
    refine Seq.val (Runs.move rfl rfl) rfl rfl rfl ?_
    refine Seq.val (Runs.extract rfl rfl rfl) rfl rfl rfl ?_
    refine Seq.val (Runs.extract rfl rfl rfl) rfl rfl rfl ?_
    refine Seq.val (Runs.assign rfl rfl) rfl rfl rfl ?_
    refine Seq.val (Runs.assign rfl rfl) rfl rfl rfl ?_
    refine Seq.nil ?_
    refine Post.weak (F' := [(0, _), (2, _), (3, _), (4, _), (5, _), (6, _), (7, _)]) ⟨rfl, rfl, rfl, rfl, rfl, rfl, rfl, trivial⟩ ?_
    refine Post.then_ ?_
    refine Cd.seq ?_
    refine Cd.seq ?_
    refine Cd.region ?_
    refine Seq.val (Runs.move rfl rfl) rfl rfl rfl ?_
    refine Seq.val ((Runs.eqlI rfl rfl rfl).isT (rfl)) rfl rfl rfl ?_
    refine Seq.val (Runs.move rfl rfl) rfl rfl rfl ?_
    refine Seq.valG (Runs.loadW rfl rfl Try.underlying57 rfl k5 (m := 4) (by kernel_rfl) rfl) rfl rfl rfl rfl rfl ?_
    refine Seq.callG (Enters.func rfl rfl rfl (run_enter Try.func34 (by kernel_rfl) rfl)) rfl rfl rfl rfl rfl (hri) ?_
    rintro e w7 ⟨rfl, hb7⟩
    refine ⟨_, rfl, ?_⟩
    replace bel := bel.step hb7
    replace k2 := k2.step hb7
    replace k5 := k5.step hb7
    refine Seq.valG (Runs.not rfl rfl) rfl rfl rfl rfl rfl ?_
    refine Seq.val (Runs.pickT rfl rfl rfl) rfl rfl rfl ?_
    have hw67 := hb7.size
    cases b with
    | true =>
      refine Seq.nil ?_
      refine Post.weak (F' := [(0, _), (2, _), (3, _), (4, _), (5, _), (6, _), (7, _), (20, _)]) ⟨rfl, rfl, rfl, rfl, rfl, rfl, rfl, rfl, trivial⟩ ?_
      refine Post.then_ ?_
      refine Cd.condF rfl rfl ?_
      refine Cd.skip ?_
      refine Post.then_ ?_
      refine Cd.seq ?_
      refine Cd.seq ?_
      refine Cd.region ?_
      refine Seq.val (Runs.move rfl rfl) rfl rfl rfl ?_
      refine Seq.val (Runs.neqI rfl rfl rfl) rfl rfl rfl ?_
      refine Seq.nil ?_
      refine Post.weak (F' := [(0, _), (2, _), (3, _), (4, _), (5, _), (6, _), (7, _), (20, _), (22, _)]) ⟨rfl, rfl, rfl, rfl, rfl, rfl, rfl, rfl, rfl, trivial⟩ ?_
      refine Post.then_ ?_
      refine Cd.condF rfl (by simp) ?_
      refine Cd.skip ?_
      refine Post.then_ ?_
      refine Cd.seq ?_
      refine Cd.region ?_
      refine Seq.val (Runs.loadW rfl rfl Try.underlying57 rfl k5 (m := 4) (by kernel_rfl) rfl) rfl rfl rfl ?_
      refine Seq.storeN rfl rfl rfl rfl (m := 4) (by kernel_rfl) rfl (by repeat' first | exact trivial | apply And.intro | rfl | assumption) k2 (by simp [Value.cells]) rfl rfl ?_
      intro w3 pw3
      replace bel := bel.put k2 pw3 e2
      replace k5 := k5.put pw3 (by omega)
      replace k2 := pw3.blk
      refine Seq.val (Runs.assign rfl rfl) rfl rfl rfl ?_
      refine Seq.val (Runs.assign rfl rfl) rfl rfl rfl ?_
      refine Seq.nil ?_
      refine Post.weak (F' := [(0, _), (2, _), (3, _), (4, _), (5, _), (6, _), (7, _), (20, _), (22, _)]) ⟨rfl, rfl, rfl, rfl, rfl, rfl, rfl, rfl, rfl, trivial⟩ ?_
      refine Post.then_ ?_
      refine Cd.ret ?_
      refine Post.endC3 rfl rfl rfl rfl k2 Try.underlying57 rfl (m := 4) (by kernel_rfl) rfl (.inl rfl) ?_
      rw [hps2, if_pos rfl]
      have hsz := pw3.size
      refine ⟨bel, .agg #[.int .i64 x.op, .string (strOf x.name), .slice A x.exprs.length c, .slice A' x.terms.length c'], S, rfl, hrep.mono (fun _ h => h) fun p hp => World.cell?_of_block ?_, fun b hb => ?_⟩
      · have := hS _ hp
        exact (pw3.grown.block _ (by omega) (fun e => by injection e with e; omega)).trans (hb7.block _ this.2)
      · have := hS b hb
        have := hb6.size
        omega
    | false =>
      refine Seq.nil ?_
      refine Post.weak (F' := [(0, _), (2, _), (3, _), (4, _), (5, _), (6, _), (7, _), (20, _)]) ⟨rfl, rfl, rfl, rfl, rfl, rfl, rfl, rfl, trivial⟩ ?_
      refine Post.then_ ?_
      refine Cd.condT rfl rfl ?_
      refine Cd.region ?_
      refine Seq.val (Runs.assign rfl rfl) rfl rfl rfl ?_
      refine Seq.nil ?_
      refine Post.weak (F' := [(0, _), (2, _), (3, _), (4, _), (5, _), (6, _), (7, _), (20, _)]) ⟨rfl, rfl, rfl, rfl, rfl, rfl, rfl, rfl, trivial⟩ ?_
      refine Post.then_ ?_
      refine Cd.seq ?_
      refine Cd.seq ?_
      refine Cd.region ?_
      refine Seq.val (Runs.move rfl rfl) rfl rfl rfl ?_
      refine Seq.val (Runs.neqI rfl rfl rfl) rfl rfl rfl ?_
      refine Seq.nil ?_
      refine Post.weak (F' := [(0, _), (2, _), (3, _), (4, _), (5, _), (6, _), (7, _), (20, _), (22, _)]) ⟨rfl, rfl, rfl, rfl, rfl, rfl, rfl, rfl, rfl, trivial⟩ ?_
      refine Post.then_ ?_
      refine Cd.condT rfl (by simp) ?_
      refine Cd.seq ?_
      refine Cd.region ?_
      refine Seq.val (Runs.build rfl rfl (run_build_T0 _)) rfl rfl rfl ?_
      refine Seq.val (Runs.move rfl rfl) rfl rfl rfl ?_
      refine Seq.val (Runs.move rfl rfl) rfl rfl rfl ?_
      refine Seq.storeN rfl rfl rfl rfl (m := 4) (by kernel_rfl) rfl (by repeat' first | exact trivial | apply And.intro | rfl | assumption) k2 (by simp [Value.cells]) rfl rfl ?_
      intro w3 pw3
      replace bel := bel.put k2 pw3 e2
      replace k5 := k5.put pw3 (by omega)
      replace k2 := pw3.blk
      refine Seq.val (Runs.assign rfl rfl) rfl rfl rfl ?_
      refine Seq.val (Runs.assign rfl rfl) rfl rfl rfl ?_
      refine Seq.nil ?_
      refine Post.weak (F' := [(0, _), (2, _), (3, _), (4, _), (5, _), (6, _), (7, _), (20, _), (22, _)]) ⟨rfl, rfl, rfl, rfl, rfl, rfl, rfl, rfl, rfl, trivial⟩ ?_
      refine Post.then_ ?_
      refine Cd.ret ?_
      refine Post.then_ret ?_
      refine Post.endC3 rfl rfl rfl rfl k2 Try.underlying57 rfl (m := 4) (by kernel_rfl) rfl (.inl rfl) ?_
      rw [hps2, if_neg (by simp)]
      exact ⟨bel, .agg #[.int .i64 0, .string (strOf []), .slice none 0 0, .slice none 0 0], fun _ => False, rfl, RepT.zero _ _, fun b h => h.elim⟩
  · have hps2 : parseT l = (zeroTm, y, z) := by unfold parseT; rw [if_pos (by rw [hz]; exact hz0), hy, hz]
    refine Seq.val (Runs.move rfl rfl) rfl rfl rfl ?_
    refine Seq.val (Runs.extract rfl rfl rfl) rfl rfl rfl ?_
    refine Seq.val (Runs.extract rfl rfl rfl) rfl rfl rfl ?_
    refine Seq.val (Runs.assign rfl rfl) rfl rfl rfl ?_
    refine Seq.val (Runs.assign rfl rfl) rfl rfl rfl ?_
    refine Seq.nil ?_
    refine Post.weak (F' := [(0, _), (2, _), (3, _), (4, _), (5, _), (6, _), (7, _)]) ⟨rfl, rfl, rfl, rfl, rfl, rfl, rfl, trivial⟩ ?_
    refine Post.then_ ?_
    refine Cd.seq ?_
    refine Cd.seq ?_
    refine Cd.region ?_
    refine Seq.val (Runs.move rfl rfl) rfl rfl rfl ?_
    refine Seq.val ((Runs.eqlI rfl rfl rfl).isF (hz0)) rfl rfl rfl ?_
    refine Seq.val (Runs.move rfl rfl) rfl rfl rfl ?_
    refine Seq.skipG rfl rfl rfl rfl rfl rfl ?_
    refine Seq.skipG rfl rfl rfl rfl rfl rfl ?_
    refine Seq.skipG rfl rfl rfl rfl rfl rfl ?_
    refine Seq.val (Runs.pickF rfl rfl rfl) rfl rfl rfl ?_
    refine Seq.nil ?_
    refine Post.weak (F' := [(0, _), (2, _), (3, _), (4, _), (5, _), (6, _), (7, _), (20, _)]) ⟨rfl, rfl, rfl, rfl, rfl, rfl, rfl, rfl, trivial⟩ ?_
    refine Post.then_ ?_
    refine Cd.condF rfl rfl ?_
    refine Cd.skip ?_
    refine Post.then_ ?_
    refine Cd.seq ?_
    refine Cd.seq ?_
    refine Cd.region ?_
    refine Seq.val (Runs.move rfl rfl) rfl rfl rfl ?_
    refine Seq.val (Runs.neqI rfl rfl rfl) rfl rfl rfl ?_
    refine Seq.nil ?_
    refine Post.weak (F' := [(0, _), (2, _), (3, _), (4, _), (5, _), (6, _), (7, _), (20, _), (22, _)]) ⟨rfl, rfl, rfl, rfl, rfl, rfl, rfl, rfl, rfl, trivial⟩ ?_
    refine Post.then_ ?_
    refine Cd.condT rfl (by simpa using hz0) ?_
    refine Cd.seq ?_
    refine Cd.region ?_
    refine Seq.val (Runs.build rfl rfl (run_build_T0 _)) rfl rfl rfl ?_
    refine Seq.val (Runs.move rfl rfl) rfl rfl rfl ?_
    refine Seq.val (Runs.move rfl rfl) rfl rfl rfl ?_
    refine Seq.storeN rfl rfl rfl rfl (m := 4) (by kernel_rfl) rfl (by repeat' first | exact trivial | apply And.intro | rfl | assumption) k2 (by simp [Value.cells]) rfl rfl ?_
    intro w3 pw3
    replace bel := bel.put k2 pw3 e2
    replace k2 := pw3.blk
    refine Seq.val (Runs.assign rfl rfl) rfl rfl rfl ?_
    refine Seq.val (Runs.assign rfl rfl) rfl rfl rfl ?_
    refine Seq.nil ?_
    refine Post.weak (F' := [(0, _), (2, _), (3, _), (4, _), (5, _), (6, _), (7, _), (20, _), (22, _)]) ⟨rfl, rfl, rfl, rfl, rfl, rfl, rfl, rfl, rfl, trivial⟩ ?_
    refine Post.then_ ?_
    refine Cd.ret ?_
    refine Post.then_ret ?_
    refine Post.endC3 rfl rfl rfl rfl k2 Try.underlying57 rfl (m := 4) (by kernel_rfl) rfl (.inl rfl) ?_
    rw [hps2]
    exact ⟨bel, .agg #[.int .i64 0, .string (strOf []), .slice none 0 0, .slice none 0 0], fun _ => False, rfl, RepT.zero _ _, fun b h => h.elim⟩
end Go.Proofs.Ytijaldpmpjapiaa

namespace Go.Proofs.Ytijaldpmpjapiaa
open Go.RowKit

/-- An expression stands in a block, its parts above a bound. -/
def InE (gt : Nat) (W0 : World) (x : Ex) (W : World) : Prop := ∃ (S : Nat → Prop) (v : Value), Blk W gt 35 v.cells ∧ RepE W S x v ∧ ∀ b, S b → W0.heap.size ≤ b ∧ b < W.heap.size
theorem parseXC_any (K : Ctx) (hK : K.Ok) (n gt h : Nat) (W : World) (pw : PW K W 0 0 false) (kt : Blk W gt 35 #[.int .i64 0, .int .i64 0, .string { data := #[] }, .slice none 0 0]) (hg : gt < K.g) (hh : h ≤ gt) (hKA : ∀ ad, K.A = some ad → ad.block ≠ gt) (hne : (fuelP K.ws n).E 0 0 0 ≠ .out) :
    Calls Try.prog 71 #[.pointer (some ⟨K.g, 0, none⟩), .pointer (some ⟨gt, 0, none⟩)] W (PRk K h W ((fuelP K.ws n).E 0 0 0) (InE gt W)) := by
  have hcl := (has_all K hK n n (Nat.le_refl _)).2 0 (by omega) 0 0 W pw hne
  have hlt := pw.blk.lt
  have hle := hK.le
  have bel := Below.refl W.heap.size W
  refine Calls.start 5 Try.func71 rfl rfl rfl ?_
  refine Cd.region ?_
  refine Seq.val (Runs.move rfl rfl) rfl rfl rfl ?_
  rcases Rs.ok_or hne with ⟨q, ov, hr⟩ | ⟨x, q, hr⟩
  · rw [hr] at hcl ⊢
    refine Seq.callB (Enters.func rfl rfl rfl (run_enter Try.func72 (by kernel_rfl) rfl)) rfl hcl ?_
    rintro e w6 ⟨hf, rfl, d6, hp6⟩
    refine ⟨_, rfl, fun a ha => ⟨ha.defers, ?_⟩⟩
    exact ⟨hf, rfl, d6, hp6⟩
  rw [hr] at hcl ⊢
  refine Seq.call (Enters.func rfl rfl rfl (run_enter Try.func72 (by kernel_rfl) rfl)) rfl rfl rfl (hcl) ?_
  rintro e wq ⟨hf, v, rfl, pwq, S, hrep, hS⟩
  refine ⟨_, rfl, ?_⟩
  have kp0 := (Kp.refl W).fz pw.blk hf
  have k98 := kt.fz hf (by omega)
  have hs98 := k98.lt
  have k98' := k98
  obtain ⟨A, c, rfl⟩ := hrep.form
  have hq := pwq.blk.lt
  clear bel
  have bel := Below.refl wq.heap.size wq
  refine Seq.storeN rfl rfl rfl rfl (m := 4) (by kernel_rfl) rfl (by repeat' first | exact trivial | apply And.intro | rfl | assumption) k98 (by simp [Value.cells]) rfl rfl ?_
  intro w1 pw1
  replace k98 := pw1.blk
  refine Seq.nil ?_
  refine Post.weak (F' := [(0, _), (1, _)]) ⟨rfl, rfl, trivial⟩ ?_
  refine Post.end0 rfl (.inr rfl) ?_
  have hsz := pw1.size
  have hbl : ∀ k, k ≠ gt → k < wq.heap.size → w1.heap[k]? = wq.heap[k]? := fun k hk hl => pw1.grown.block k hl (fun e => hk (by injection e))
  have hrd : Reads w1 K.B 4 K.A K.ws.length (wdCells K.ws) := ⟨pwq.rd.1, fun h0 => by
    obtain ⟨ad, e1, e2, e3⟩ := pwq.rd.2 h0
    exact ⟨ad, e1, e2, fun j u hu => (World.cell?_of_block (by rw [block_of_add]; exact hbl _ (hKA ad e1) (by omega))).trans (e3 j u hu)⟩⟩
  have k98z : Blk w1 gt 35 (Value.agg #[Value.int .i64 x.op, Value.int .i64 x.n, Value.string (strOf x.name), Value.slice A x.args.length c]).cells := k98
  have kgz : Blk w1 K.g 141 _ := pwq.blk.put pw1 (by omega)
  exact ⟨⟨pw1.grown.os.trans hf.os, pw1.grown.tape.trans hf.tape, pw1.grown.output.trans hf.output, by have := hf.size; omega, fun k hk hne => (hbl k (by omega) (by omega)).trans (hf.block k (by omega) hne)⟩, kp0.put k98' pw1 trivial, ⟨_, rfl⟩, ⟨kgz, hrd, pwq.p_le, pwq.d_le⟩, S, _, k98z, hrep.mono (fun _ h => h) (fun a ha => World.cell?_of_block (hbl _ (by have := (hS _ ha).1; have := kt.lt; omega) (hS _ ha).2)), fun b hb => ⟨(hS b hb).1, by have := (hS b hb).2; omega⟩⟩
/-- What ParseExpr answers. -/
def parseX (l : List Nat) : Ex × Nat × Int := if (parAt l (exprQ (lexAll l).1)).2 ≠ 0 then (zeroEx, (parAt l (exprQ (lexAll l).1)).1, (parAt l (exprQ (lexAll l).1)).2) else match exprQ (lexAll l).1 with
  | .ok x _ => if rightB x = true then (x, 0, 0) else (zeroEx, 0, 13)
  | _ => (zeroEx, 0, 0)
theorem InE.kept {gt : Nat} {w W0 W W' : World} {a : Ex} {g : Nat} (h : InE gt W0 a W) (hgt : gt < w.heap.size) (h2 : w.heap.size ≤ g) (h3 : g < W0.heap.size) (h4 : W0.heap.size ≤ W.heap.size) (h5 : W.heap.size ≤ W'.heap.size) (h6 : ∀ k, k < W.heap.size → k ≠ g → W'.heap[k]? = W.heap[k]?) : InE gt w a W' := by
  obtain ⟨S, v, h7, h8, h9⟩ := h
  refine ⟨S, v, ?_, h8.mono (fun _ h => h) (fun p hp => World.cell?_of_block (h6 _ (h9 _ hp).2 (by have := (h9 _ hp).1; omega))), fun b hb => ⟨by have := (h9 b hb).1; omega, by have := (h9 b hb).2; omega⟩⟩
  unfold Blk at h7 ⊢
  rw [h6 gt (by omega) (by omega)]
  exact h7
theorem parseExpr_any (l : List Nat) (w : World) (hl : ∀ x ∈ l, x < 256) (hlen : l.length ≤ 9223372036854775807) :
    Calls Try.prog 36 #[.string (strOf l)] w fun e w' => Below w.heap.size w w' ∧ ∃ (v : Value) (S : Nat → Prop), e = .returned (.tuple #[v, .int .i64 ((parseX l).2.1 : Int), .int .i64 (parseX l).2.2]) ∧ RepE w' S (parseX l).1 v ∧ ∀ b, S b → w.heap.size ≤ b ∧ b < w'.heap.size := by
  have bel := Below.refl w.heap.size w
  refine Calls.start 27 Try.func36 rfl rfl rfl ?_
  refine Cd.seq ?_
  refine Cd.region ?_
  refine Seq.alloc rfl (run_zero zero_api_Expr) rfl rfl rfl ?_
  intro g2 w1 n2
  have e2 := Nat.le_trans bel.size n2.ge
  replace bel := bel.step n2.below
  have k2 := n2.blk
  refine Seq.val (Runs.assign rfl rfl) rfl rfl rfl ?_
  refine Seq.val (Runs.assign rfl rfl) rfl rfl rfl ?_
  refine Seq.nil ?_
  refine Post.weak (F' := [(0, _), (2, _), (3, _), (4, _)]) ⟨rfl, rfl, rfl, rfl, trivial⟩ ?_
  refine Post.then_ ?_
  refine Cd.seq ?_
  refine Cd.region ?_
  refine Seq.alloc rfl (run_zero zero_api_Expr) rfl rfl rfl ?_
  intro g5 w2 n5
  have e5 := Nat.le_trans bel.size n5.ge
  have l5 := Nat.lt_of_lt_of_le k2.lt n5.ge
  replace bel := bel.step n5.below
  replace k2 := k2.step n5.below
  have k5 := n5.blk
  refine Seq.nil ?_
  refine Post.weak (F' := [(0, _), (2, _), (3, _), (4, _), (5, _)]) ⟨rfl, rfl, rfl, rfl, rfl, trivial⟩ ?_
  refine Post.then_ ?_
  refine Cd.seq ?_
  refine Cd.region ?_
  refine Seq.val (Runs.move rfl rfl) rfl rfl rfl ?_
  refine Seq.val (Runs.makeFunc (v := .func (.func 71) #[] #[.pointer (some ⟨g5, 0, none⟩)]) rfl (show evL _ _ = some [] from rfl) (show evL _ _ = some [.pointer (some ⟨g5, 0, none⟩)] from rfl) rfl) rfl rfl rfl ?_
  have hg5 := k5.lt
  have hps := parsed_any l hl hlen 71 [.pointer (some ⟨g5, 0, none⟩)] g5 (exprQ (lexAll l).1) (InE g5) (InE g5 w2) w2 (Nat.le_of_lt hg5) (fun args w => run_enter Try.func71 (by kernel_rfl) rfl args w) (exprQ_ne _)
    (fun a W0 W W' g h1 h2 h3 h4 h5 h6 => h1.kept hg5 h2 h3 h4 h5 h6)
    (fun K hK hw h2 hg hA W hb hp => by
      have := parseXC_any K hK ((lexAll l).1.length + 1) g5 g5 W hp (k5.step hb) (by omega) (Nat.le_refl _) (fun ad ha => by have := hA ad ha; omega) (by rw [hw]; exact exprQ_ne _)
      rw [hw] at this
      exact this)
  refine Seq.call (Enters.func rfl rfl rfl (run_enter Try.func64 (by kernel_rfl) rfl)) rfl rfl rfl (hps) ?_
  rintro e w6 ⟨hb6, kp6, rfl, hok⟩
  refine ⟨_, rfl, ?_⟩
  have bel6 : Below w.heap.size w w6 := bel.trans (hb6.mono e5)
  have k2' : Blk w6 g2 35 _ := (show w6.heap[g2]? = w2.heap[g2]? from hb6.block g2 l5).trans k2
  have hlt6 := bel6.size
  clear bel k5 k2
  have bel := bel6
  have k2 := k2'
  have hA := parAt_zero (l := l) (r := exprQ (lexAll l).1)
  obtain ⟨z, hz⟩ : ∃ z, (parAt l (exprQ (lexAll l).1)).2 = z := ⟨_, rfl⟩
  obtain ⟨y, hy⟩ : ∃ y, (parAt l (exprQ (lexAll l).1)).1 = y := ⟨_, rfl⟩
  rw [hz] at hok hA ⊢
  rw [hy] at hA ⊢
  by_cases hz0 : z = 0
  · obtain ⟨x, q, hx, S, v, k5, hrep, hS⟩ := hok hz0
    have hps2 : parseX l = if rightB x = true then (x, 0, 0) else (zeroEx, 0, 13) := by unfold parseX; rw [if_neg (by rw [hz]; exact fun h => h hz0), hx]
    obtain rfl := hA hz0
    subst hz0
    have hrb : Rep w6 w6.heap.size x v := hrep.mono (fun b hb => (hS b hb).2) (fun _ _ => rfl)
    obtain ⟨A, c, rfl⟩ := hrep.form
    have hri := rightExpr_all x w6.heap.size _ w6 hrb (Nat.le_refl _)
    have k5 : Blk w6 g5 35 #[.int .i64 x.op, .int .i64 x.n, .string (strOf x.name), .slice A x.args.length c] := k5
    have hri : Calls Try.prog 41 #[_] w6 fun en w' => en = .returned (.bool (rightB x)) ∧ Grow w6 w' := hri
    generalize rightB x = b at *
    refine Seq.val (Runs.move rfl rfl) rfl rfl rfl ?_
    refine Seq.val (Runs.extract rfl rfl rfl) rfl rfl rfl ?_
    refine Seq.val (Runs.extract rfl rfl rfl) rfl rfl rfl ?_
    refine Seq.val (Runs.assign rfl rfl) rfl rfl rfl ?_
    refine Seq.val (Runs.assign rfl rfl) rfl rfl rfl ?_
    refine Seq.nil ?_
    refine Post.weak (F' := [(0, _), (2, _), (3, _), (4, _), (5, _), (6, _), (7, _)]) ⟨rfl, rfl, rfl, rfl, rfl, rfl, rfl, trivial⟩ ?_
    refine Post.then_ ?_
    refine Cd.seq ?_
    refine Cd.seq ?_
    refine Cd.region ?_
    refine Seq.val (Runs.move rfl rfl) rfl rfl rfl ?_
    refine Seq.val ((Runs.eqlI rfl rfl rfl).isT (rfl)) rfl rfl rfl ?_
    refine Seq.val (Runs.move rfl rfl) rfl rfl rfl ?_
    refine Seq.valG (Runs.loadW rfl rfl Try.underlying35 rfl k5 (m := 4) (by kernel_rfl) rfl) rfl rfl rfl rfl rfl ?_
    refine Seq.callG (Enters.func rfl rfl rfl (run_enter Try.func41 (by kernel_rfl) rfl)) rfl rfl rfl rfl rfl (hri) ?_
    rintro e w7 ⟨rfl, hb7⟩
    refine ⟨_, rfl, ?_⟩
    replace bel := bel.step hb7
    replace k2 := k2.step hb7
    replace k5 := k5.step hb7
    refine Seq.valG (Runs.not rfl rfl) rfl rfl rfl rfl rfl ?_
    refine Seq.val (Runs.pickT rfl rfl rfl) rfl rfl rfl ?_
    have hw67 := hb7.size
    cases b with
    | true =>
      refine Seq.nil ?_
      refine Post.weak (F' := [(0, _), (2, _), (3, _), (4, _), (5, _), (6, _), (7, _), (20, _)]) ⟨rfl, rfl, rfl, rfl, rfl, rfl, rfl, rfl, trivial⟩ ?_
      refine Post.then_ ?_
      refine Cd.condF rfl rfl ?_
      refine Cd.skip ?_
      refine Post.then_ ?_
      refine Cd.seq ?_
      refine Cd.seq ?_
      refine Cd.region ?_
      refine Seq.val (Runs.move rfl rfl) rfl rfl rfl ?_
      refine Seq.val (Runs.neqI rfl rfl rfl) rfl rfl rfl ?_
      refine Seq.nil ?_
      refine Post.weak (F' := [(0, _), (2, _), (3, _), (4, _), (5, _), (6, _), (7, _), (20, _), (22, _)]) ⟨rfl, rfl, rfl, rfl, rfl, rfl, rfl, rfl, rfl, trivial⟩ ?_
      refine Post.then_ ?_
      refine Cd.condF rfl (by simp) ?_
      refine Cd.skip ?_
      refine Post.then_ ?_
      refine Cd.seq ?_
      refine Cd.region ?_
      refine Seq.val (Runs.loadW rfl rfl Try.underlying35 rfl k5 (m := 4) (by kernel_rfl) rfl) rfl rfl rfl ?_
      refine Seq.storeN rfl rfl rfl rfl (m := 4) (by kernel_rfl) rfl (by repeat' first | exact trivial | apply And.intro | rfl | assumption) k2 (by simp [Value.cells]) rfl rfl ?_
      intro w3 pw3
      replace bel := bel.put k2 pw3 e2
      replace k5 := k5.put pw3 (by omega)
      replace k2 := pw3.blk
      refine Seq.val (Runs.assign rfl rfl) rfl rfl rfl ?_
      refine Seq.val (Runs.assign rfl rfl) rfl rfl rfl ?_
      refine Seq.nil ?_
      refine Post.weak (F' := [(0, _), (2, _), (3, _), (4, _), (5, _), (6, _), (7, _), (20, _), (22, _)]) ⟨rfl, rfl, rfl, rfl, rfl, rfl, rfl, rfl, rfl, trivial⟩ ?_
      refine Post.then_ ?_
      refine Cd.ret ?_
      refine Post.endC3 rfl rfl rfl rfl k2 Try.underlying35 rfl (m := 4) (by kernel_rfl) rfl (.inl rfl) ?_
      rw [hps2, if_pos rfl]
      have hsz := pw3.size
      refine ⟨bel, .agg #[.int .i64 x.op, .int .i64 x.n, .string (strOf x.name), .slice A x.args.length c], S, rfl, hrep.mono (fun _ h => h) fun p hp => World.cell?_of_block ?_, fun b hb => ?_⟩
      · have := hS _ hp
        exact (pw3.grown.block _ (by omega) (fun e => by injection e with e; omega)).trans (hb7.block _ this.2)
      · have := hS b hb
        have := hb6.size
        omega
    | false =>
      refine Seq.nil ?_
      refine Post.weak (F' := [(0, _), (2, _), (3, _), (4, _), (5, _), (6, _), (7, _), (20, _)]) ⟨rfl, rfl, rfl, rfl, rfl, rfl, rfl, rfl, trivial⟩ ?_
      refine Post.then_ ?_
      refine Cd.condT rfl rfl ?_
      refine Cd.region ?_
      refine Seq.val (Runs.assign rfl rfl) rfl rfl rfl ?_
      refine Seq.nil ?_
      refine Post.weak (F' := [(0, _), (2, _), (3, _), (4, _), (5, _), (6, _), (7, _), (20, _)]) ⟨rfl, rfl, rfl, rfl, rfl, rfl, rfl, rfl, trivial⟩ ?_
      refine Post.then_ ?_
      refine Cd.seq ?_
      refine Cd.seq ?_
      refine Cd.region ?_
      refine Seq.val (Runs.move rfl rfl) rfl rfl rfl ?_
      refine Seq.val (Runs.neqI rfl rfl rfl) rfl rfl rfl ?_
      refine Seq.nil ?_
      refine Post.weak (F' := [(0, _), (2, _), (3, _), (4, _), (5, _), (6, _), (7, _), (20, _), (22, _)]) ⟨rfl, rfl, rfl, rfl, rfl, rfl, rfl, rfl, rfl, trivial⟩ ?_
      refine Post.then_ ?_
      refine Cd.condT rfl (by simp) ?_
      refine Cd.seq ?_
      refine Cd.region ?_
      refine Seq.val (Runs.build rfl rfl (run_build_E0 _)) rfl rfl rfl ?_
      refine Seq.val (Runs.move rfl rfl) rfl rfl rfl ?_
      refine Seq.val (Runs.move rfl rfl) rfl rfl rfl ?_
      refine Seq.storeN rfl rfl rfl rfl (m := 4) (by kernel_rfl) rfl (by repeat' first | exact trivial | apply And.intro | rfl | assumption) k2 (by simp [Value.cells]) rfl rfl ?_
      intro w3 pw3
      replace bel := bel.put k2 pw3 e2
      replace k5 := k5.put pw3 (by omega)
      replace k2 := pw3.blk
      refine Seq.val (Runs.assign rfl rfl) rfl rfl rfl ?_
      refine Seq.val (Runs.assign rfl rfl) rfl rfl rfl ?_
      refine Seq.nil ?_
      refine Post.weak (F' := [(0, _), (2, _), (3, _), (4, _), (5, _), (6, _), (7, _), (20, _), (22, _)]) ⟨rfl, rfl, rfl, rfl, rfl, rfl, rfl, rfl, rfl, trivial⟩ ?_
      refine Post.then_ ?_
      refine Cd.ret ?_
      refine Post.then_ret ?_
      refine Post.endC3 rfl rfl rfl rfl k2 Try.underlying35 rfl (m := 4) (by kernel_rfl) rfl (.inl rfl) ?_
      rw [hps2, if_neg (by simp)]
      exact ⟨bel, .agg #[.int .i64 0, .int .i64 0, .string (strOf []), .slice none 0 0], fun _ => False, rfl, RepE.zero _ _, fun b h => h.elim⟩
  · have hps2 : parseX l = (zeroEx, y, z) := by unfold parseX; rw [if_pos (by rw [hz]; exact hz0), hy, hz]
    refine Seq.val (Runs.move rfl rfl) rfl rfl rfl ?_
    refine Seq.val (Runs.extract rfl rfl rfl) rfl rfl rfl ?_
    refine Seq.val (Runs.extract rfl rfl rfl) rfl rfl rfl ?_
    refine Seq.val (Runs.assign rfl rfl) rfl rfl rfl ?_
    refine Seq.val (Runs.assign rfl rfl) rfl rfl rfl ?_
    refine Seq.nil ?_
    refine Post.weak (F' := [(0, _), (2, _), (3, _), (4, _), (5, _), (6, _), (7, _)]) ⟨rfl, rfl, rfl, rfl, rfl, rfl, rfl, trivial⟩ ?_
    refine Post.then_ ?_
    refine Cd.seq ?_
    refine Cd.seq ?_
    refine Cd.region ?_
    refine Seq.val (Runs.move rfl rfl) rfl rfl rfl ?_
    refine Seq.val ((Runs.eqlI rfl rfl rfl).isF (hz0)) rfl rfl rfl ?_
    refine Seq.val (Runs.move rfl rfl) rfl rfl rfl ?_
    refine Seq.skipG rfl rfl rfl rfl rfl rfl ?_
    refine Seq.skipG rfl rfl rfl rfl rfl rfl ?_
    refine Seq.skipG rfl rfl rfl rfl rfl rfl ?_
    refine Seq.val (Runs.pickF rfl rfl rfl) rfl rfl rfl ?_
    refine Seq.nil ?_
    refine Post.weak (F' := [(0, _), (2, _), (3, _), (4, _), (5, _), (6, _), (7, _), (20, _)]) ⟨rfl, rfl, rfl, rfl, rfl, rfl, rfl, rfl, trivial⟩ ?_
    refine Post.then_ ?_
    refine Cd.condF rfl rfl ?_
    refine Cd.skip ?_
    refine Post.then_ ?_
    refine Cd.seq ?_
    refine Cd.seq ?_
    refine Cd.region ?_
    refine Seq.val (Runs.move rfl rfl) rfl rfl rfl ?_
    refine Seq.val (Runs.neqI rfl rfl rfl) rfl rfl rfl ?_
    refine Seq.nil ?_
    refine Post.weak (F' := [(0, _), (2, _), (3, _), (4, _), (5, _), (6, _), (7, _), (20, _), (22, _)]) ⟨rfl, rfl, rfl, rfl, rfl, rfl, rfl, rfl, rfl, trivial⟩ ?_
    refine Post.then_ ?_
    refine Cd.condT rfl (by simpa using hz0) ?_
    refine Cd.seq ?_
    refine Cd.region ?_
    refine Seq.val (Runs.build rfl rfl (run_build_E0 _)) rfl rfl rfl ?_
    refine Seq.val (Runs.move rfl rfl) rfl rfl rfl ?_
    refine Seq.val (Runs.move rfl rfl) rfl rfl rfl ?_
    refine Seq.storeN rfl rfl rfl rfl (m := 4) (by kernel_rfl) rfl (by repeat' first | exact trivial | apply And.intro | rfl | assumption) k2 (by simp [Value.cells]) rfl rfl ?_
    intro w3 pw3
    replace bel := bel.put k2 pw3 e2
    replace k2 := pw3.blk
    refine Seq.val (Runs.assign rfl rfl) rfl rfl rfl ?_
    refine Seq.val (Runs.assign rfl rfl) rfl rfl rfl ?_
    refine Seq.nil ?_
    refine Post.weak (F' := [(0, _), (2, _), (3, _), (4, _), (5, _), (6, _), (7, _), (20, _), (22, _)]) ⟨rfl, rfl, rfl, rfl, rfl, rfl, rfl, rfl, rfl, trivial⟩ ?_
    refine Post.then_ ?_
    refine Cd.ret ?_
    refine Post.then_ret ?_
    refine Post.endC3 rfl rfl rfl rfl k2 Try.underlying35 rfl (m := 4) (by kernel_rfl) rfl (.inl rfl) ?_
    rw [hps2]
    exact ⟨bel, .agg #[.int .i64 0, .int .i64 0, .string (strOf []), .slice none 0 0], fun _ => False, rfl, RepE.zero _ _, fun b h => h.elim⟩
end Go.Proofs.Ytijaldpmpjapiaa

namespace Go.Proofs.Ytijaldpmpjapiaa
open Go.RowKit

theorem sameExpr_any (N : Nat) : ∀ (e : Ex) (B : Nat) (v u : Value) (w : World), e.nodes ≤ N → Rep w B e v → Rep w B e u → B ≤ w.heap.size → Calls Try.prog 37 #[v, u] w fun en w' => en = .returned (.bool true) ∧ Grow w w' := by
  induction N with
  | zero => intro e B v u w hN; have := e.nodes_pos; omega
  | succ N ih =>
  intro e B v u w hN hrep hrep' hB
  obtain ⟨A, c, rfl, hv⟩ := hrep.open
  obtain ⟨A', c', rfl, hv'⟩ := hrep'.open
  have bel := Below.refl w.heap.size w
  have h60 := hv.h60
  have hnm := hv.name
  refine Calls.start 53 Try.func37 rfl rfl rfl ?_
  refine Cd.seq ?_
  refine Cd.region ?_
  refine Seq.box rfl rfl rfl rfl rfl ?_
  intro g2 w1 n2
  have e2 := Nat.le_trans bel.size n2.ge
  replace bel := bel.step n2.below
  have k2 := n2.blk
  refine Seq.box rfl rfl rfl rfl rfl ?_
  intro g3 w2 n3
  have e3 := Nat.le_trans bel.size n3.ge
  have l3 := Nat.lt_of_lt_of_le k2.lt n3.ge
  replace bel := bel.step n3.below
  replace k2 := k2.step n3.below
  have k3 := n3.blk
  refine Seq.val (Runs.assign rfl rfl) rfl rfl rfl ?_
  refine Seq.nil ?_
  refine Post.weak (F' := [(0, _), (1, _), (2, _), (3, _), (4, _)]) ⟨rfl, rfl, rfl, rfl, rfl, trivial⟩ ?_
  refine Post.then_ ?_
  refine Cd.seq ?_
  refine Cd.seq ?_
  refine Cd.region ?_
  refine Seq.val (Runs.fieldB 0 rfl rfl Try.underlying35 rfl (by kernel_rfl)) rfl rfl rfl ?_
  refine Seq.val (Runs.loadB rfl rfl Try.underlying3 rfl k2 rfl) rfl rfl rfl ?_
  refine Seq.val (Runs.fieldB 0 rfl rfl Try.underlying35 rfl (by kernel_rfl)) rfl rfl rfl ?_
  refine Seq.val (Runs.loadB rfl rfl Try.underlying3 rfl k3 rfl) rfl rfl rfl ?_
  refine Seq.val (Runs.neqI rfl rfl rfl) rfl rfl rfl ?_
  refine Seq.val (Runs.move rfl rfl) rfl rfl rfl ?_
  refine SeqC.start ?_
  refine SeqC.open rfl rfl rfl rfl rfl rfl rfl (fun hcx => Runs.fieldB 1 rfl rfl Try.underlying35 rfl (by kernel_rfl)) ?_
  refine SeqC.next rfl rfl rfl rfl rfl rfl rfl (fun hcx => Runs.loadB rfl rfl Try.underlying2 rfl k2 rfl) ?_
  refine SeqC.next rfl rfl rfl rfl rfl rfl rfl (fun hcx => Runs.fieldB 1 rfl rfl Try.underlying35 rfl (by kernel_rfl)) ?_
  refine SeqC.next rfl rfl rfl rfl rfl rfl rfl (fun hcx => Runs.loadB rfl rfl Try.underlying2 rfl k3 rfl) ?_
  refine SeqC.next rfl rfl rfl rfl rfl rfl rfl (fun hcx => Runs.neqI rfl rfl rfl) ?_
  refine SeqC.or rfl rfl rfl rfl rfl rfl rfl ?_
  refine Seq.val (Runs.move rfl rfl) rfl rfl rfl ?_
  refine SeqC.start ?_
  refine SeqC.open rfl rfl rfl rfl rfl rfl rfl (fun hcx => Runs.fieldB 2 rfl rfl Try.underlying35 rfl (by kernel_rfl)) ?_
  refine SeqC.next rfl rfl rfl rfl rfl rfl rfl (fun hcx => Runs.loadB rfl rfl Try.underlying9 rfl k2 rfl) ?_
  refine SeqC.next rfl rfl rfl rfl rfl rfl rfl (fun hcx => Runs.fieldB 2 rfl rfl Try.underlying35 rfl (by kernel_rfl)) ?_
  refine SeqC.next rfl rfl rfl rfl rfl rfl rfl (fun hcx => Runs.loadB rfl rfl Try.underlying9 rfl k3 rfl) ?_
  refine SeqC.next rfl rfl rfl rfl rfl rfl rfl (fun hcx => Runs.neqL (a := e.name) (b := e.name) rfl rfl rfl hnm hnm) ?_
  refine SeqC.or rfl rfl rfl rfl rfl rfl rfl ?_
  refine Seq.val (Runs.move rfl rfl) rfl rfl rfl ?_
  refine SeqC.start ?_
  refine SeqC.open rfl rfl rfl rfl rfl rfl rfl (fun hcx => Runs.fieldB 3 rfl rfl Try.underlying35 rfl (by kernel_rfl)) ?_
  refine SeqC.next rfl rfl rfl rfl rfl rfl rfl (fun hcx => Runs.loadB rfl rfl Try.underlying25 rfl k2 rfl) ?_
  refine SeqC.next rfl rfl rfl rfl rfl rfl rfl (fun hcx => Runs.len rfl rfl Try.underlying25) ?_
  refine SeqC.next rfl rfl rfl rfl rfl rfl rfl (fun hcx => Runs.fieldB 3 rfl rfl Try.underlying35 rfl (by kernel_rfl)) ?_
  refine SeqC.next rfl rfl rfl rfl rfl rfl rfl (fun hcx => Runs.loadB rfl rfl Try.underlying25 rfl k3 rfl) ?_
  refine SeqC.next rfl rfl rfl rfl rfl rfl rfl (fun hcx => Runs.len rfl rfl Try.underlying25) ?_
  refine SeqC.next rfl rfl rfl rfl rfl rfl rfl (fun hcx => Runs.neqI rfl rfl rfl) ?_
  refine SeqC.or rfl rfl rfl rfl rfl rfl rfl ?_
  refine Seq.nil ?_
  refine Post.weak (F' := [(0, _), (1, _), (2, _), (3, _), (4, _), (33, _)]) ⟨rfl, rfl, rfl, rfl, rfl, rfl, trivial⟩ ?_
  refine Post.then_ ?_
  refine Cd.condF rfl (by simp) ?_
  refine Cd.skip ?_
  refine Post.then_ ?_
  refine Cd.seq ?_
  refine Cd.seq ?_
  refine Cd.region ?_
  refine Seq.val (Runs.assign rfl rfl) rfl rfl rfl ?_
  refine Seq.nil ?_
  refine Post.weak (F' := [(0, _), (1, _), (2, _), (3, _), (4, _), (5, _), (33, _)]) ⟨rfl, rfl, rfl, rfl, rfl, rfl, rfl, trivial⟩ ?_
  refine Post.then_ ?_
  refine Cd.block ?_
  refine Cd.loop (σ := Nat) (fun i => [(2, .pointer (some ⟨g2, 0, none⟩)), (3, .pointer (some ⟨g3, 0, none⟩)), (5, .int .i64 (i : Int))])
    (fun i wr => i ≤ e.args.length ∧ Below w.heap.size w wr ∧ Blk wr g2 35 #[.int .i64 e.op, .int .i64 e.n, .string (strOf e.name), .slice A e.args.length c] ∧ Blk wr g3 35 #[.int .i64 e.op, .int .i64 e.n, .string (strOf e.name), .slice A' e.args.length c']) (fun i => e.args.length - i) 0 ⟨Nat.zero_le _, bel, k2, k3⟩ ⟨rfl, rfl, rfl, trivial⟩ ?_
  clear bel k2 k3
  rintro i wr ⟨hi, bel, k2, k3⟩
  refine Cd.seq ?_
  refine Cd.seq ?_
  refine Cd.region ?_
  refine Seq.val (Runs.move rfl rfl) rfl rfl rfl ?_
  refine Seq.val (Runs.fieldB 3 rfl rfl Try.underlying35 rfl (by kernel_rfl)) rfl rfl rfl ?_
  refine Seq.val (Runs.loadB rfl rfl Try.underlying25 rfl k2 rfl) rfl rfl rfl ?_
  refine Seq.val (Runs.len rfl rfl Try.underlying25) rfl rfl rfl ?_
  refine Seq.val (Runs.lss rfl rfl rfl) rfl rfl rfl ?_
  refine Seq.nil ?_
  refine Post.weak (F' := [(2, _), (3, _), (5, _), (38, _)]) ⟨rfl, rfl, rfl, rfl, trivial⟩ ?_
  refine Post.then_ ?_
  refine Cd.condD rfl (fun hc => ?_) (fun hc => ?_)
  · obtain ⟨x, hx⟩ : ∃ x, e.args[i]? = some x := ⟨_, List.getElem?_eq_getElem (show i < e.args.length by omega)⟩
    obtain ⟨ad, Ax, cx, rfl, hbl, hrx, hc⟩ := hv.arg i x hx
    obtain ⟨ad', Ax', cx', rfl, hbl', hrx', hc'⟩ := hv'.arg i x hx
    have hxm := List.mem_of_getElem? hx
    have hxn := Ex.arg_nodes hxm
    have hc := fun W (hb : Below w.heap.size w W) j u hj => ((hb.mono hB).cell (p := (ad.add (i * 4)).add j) (by rw [block_of_add, block_of_add]; exact hbl)).trans (hc j u hj)
    have hc' := fun W (hb : Below w.heap.size w W) j u hj => ((hb.mono hB).cell (p := (ad'.add (i * 4)).add j) (by rw [block_of_add, block_of_add]; exact hbl')).trans (hc' j u hj)
    have hrec := fun W (hb : Below w.heap.size w W) => ih x B _ _ W (by omega) (hrx.below (hb.mono hB)) (hrx'.below (hb.mono hB)) (Nat.le_trans hB hb.size)
    refine Cd.skip ?_
    refine Post.then_ ?_
    refine Cd.seq ?_
    refine Cd.block ?_
    refine Cd.seq ?_
    refine Cd.draw 12 (by kernel_rfl) [] (.inl rfl) rfl Grow Grow.refl (fun _ _ _ => Grow.trans) ?_
    intro w3 hw3 zw3
    replace bel := bel.step hw3
    replace k2 := k2.step hw3
    replace k3 := k3.step hw3
    have zbel := bel.size
    have zlt := k3.lt
    refine Dr.val Grow.refl rfl (fun w hG => Runs.fieldB 3 rfl rfl Try.underlying35 rfl (by kernel_rfl)) rfl ?_
    refine Dr.val Grow.refl rfl (fun w hG => Runs.loadB rfl rfl Try.underlying25 rfl (k2.step hG) rfl) rfl ?_
    refine Dr.val Grow.refl rfl (fun w hG => Runs.move rfl rfl) rfl ?_
    refine Dr.val Grow.refl rfl (fun w hG => Runs.indexN rfl rfl rfl Try.underlying25 (s := 4) (by kernel_rfl) (j := i) rfl (by omega)) rfl ?_
    refine Dr.val Grow.refl rfl (fun w hG => Runs.loadF (ps := [.int .i64 x.op, .int .i64 x.n, .string (strOf x.name), .slice Ax x.args.length cx]) rfl rfl Try.underlying35 rfl (m := 4) (by kernel_rfl) rfl (hc _ (bel.step hG))) rfl ?_
    refine Dr.val Grow.refl rfl (fun w hG => Runs.fieldB 3 rfl rfl Try.underlying35 rfl (by kernel_rfl)) rfl ?_
    refine Dr.val Grow.refl rfl (fun w hG => Runs.loadB rfl rfl Try.underlying25 rfl (k3.step hG) rfl) rfl ?_
    refine Dr.val Grow.refl rfl (fun w hG => Runs.move rfl rfl) rfl ?_
    refine Dr.val Grow.refl rfl (fun w hG => Runs.indexN rfl rfl rfl Try.underlying25 (s := 4) (by kernel_rfl) (j := i) rfl (by omega)) rfl ?_
    refine Dr.val Grow.refl rfl (fun w hG => Runs.loadF (ps := [.int .i64 x.op, .int .i64 x.n, .string (strOf x.name), .slice Ax' x.args.length cx']) rfl rfl Try.underlying35 rfl (m := 4) (by kernel_rfl) rfl (hc' _ (bel.step hG))) rfl ?_
    refine Dr.callV rfl (fun w => Enters.func rfl rfl rfl (run_enter Try.func37 (by kernel_rfl) rfl)) rfl (fun w hG => hrec w (bel.step hG)) ?_
    refine Dr.val Grow.refl rfl (fun w hG => Runs.not rfl rfl) rfl ?_
    refine Dr.nil ?_
    refine FinX.done (F' := [(2, _), (3, _), (5, _), (38, _), (52, _)]) rfl ⟨rfl, rfl, rfl, rfl, rfl, trivial⟩ ?_
    intro w4 hw4 fw4
    replace bel := bel.step hw4
    replace k2 := k2.step hw4
    replace k3 := k3.step hw4
    refine Seq.nil ?_
    refine Post.weak (F' := [(2, _), (3, _), (5, _), (38, _), (52, _)]) ⟨rfl, rfl, rfl, rfl, rfl, trivial⟩ ?_
    refine Post.then_ ?_
    refine Cd.condF rfl rfl ?_
    refine Cd.skip ?_
    refine Post.block_normal ?_
    refine Post.then_ ?_
    refine Cd.region ?_
    refine Seq.val (Runs.move rfl rfl) rfl rfl rfl ?_
    refine Seq.val (Runs.addI rfl rfl rfl (by omega) (by omega)) rfl rfl rfl ?_
    refine Seq.val (Runs.assign rfl rfl) rfl rfl rfl ?_
    refine Seq.nil ?_
    refine Post.weak (F' := [(2, _), (3, _), (5, _), (38, _), (52, _)]) ⟨rfl, rfl, rfl, rfl, rfl, trivial⟩ ?_
    exact Post.round (i + 1) ⟨rfl, rfl, rfl, trivial⟩ ⟨by omega, bel, k2, k3⟩ (by omega)
  · skip
    refine Cd.exit ?_
    refine Post.then_exit ?_
    refine Post.round_exit ?_
    refine Post.block_exit ?_
    refine Post.then_ ?_
    refine Cd.seq ?_
    refine Cd.region ?_
    refine Seq.val (Runs.assign rfl rfl) rfl rfl rfl ?_
    refine Seq.nil ?_
    refine Post.weak (F' := [(2, _), (3, _), (4, _), (5, _), (38, _)]) ⟨rfl, rfl, rfl, rfl, rfl, trivial⟩ ?_
    refine Post.then_ ?_
    refine Cd.ret ?_
    refine Post.end1 rfl rfl (.inl rfl) ?_
    exact ⟨rfl, bel⟩
theorem sameTerm_any (N : Nat) : ∀ (t : Tm) (B : Nat) (v u : Value) (w : World), t.nodes ≤ N → RepB w B t v → RepB w B t u → B ≤ w.heap.size → Calls Try.prog 70 #[v, u] w fun en w' => en = .returned (.bool true) ∧ Grow w w' := by
  induction N with
  | zero => intro t B v u w hN; have := t.nodes_pos; omega
  | succ N ih =>
  intro t B v u w hN hrep hrep' hB
  obtain ⟨A, c, D, d, rfl, hv⟩ := hrep.open
  obtain ⟨A', c', D', d', rfl, hv'⟩ := hrep'.open
  have bel := Below.refl w.heap.size w
  have h60 := hv.h60
  have h60' := hv.h60'
  have hnm := hv.name
  refine Calls.start 75 Try.func70 rfl rfl rfl ?_
  refine Cd.seq ?_
  refine Cd.region ?_
  refine Seq.box rfl rfl rfl rfl rfl ?_
  intro g2 w1 n2
  have e2 := Nat.le_trans bel.size n2.ge
  replace bel := bel.step n2.below
  have k2 := n2.blk
  refine Seq.box rfl rfl rfl rfl rfl ?_
  intro g3 w2 n3
  have e3 := Nat.le_trans bel.size n3.ge
  have l3 := Nat.lt_of_lt_of_le k2.lt n3.ge
  replace bel := bel.step n3.below
  replace k2 := k2.step n3.below
  have k3 := n3.blk
  refine Seq.val (Runs.assign rfl rfl) rfl rfl rfl ?_
  refine Seq.nil ?_
  refine Post.weak (F' := [(0, _), (1, _), (2, _), (3, _), (4, _)]) ⟨rfl, rfl, rfl, rfl, rfl, trivial⟩ ?_
  refine Post.then_ ?_
  refine Cd.seq ?_
  refine Cd.seq ?_
  refine Cd.region ?_
  refine Seq.val (Runs.fieldB 0 rfl rfl Try.underlying57 rfl (by kernel_rfl)) rfl rfl rfl ?_
  refine Seq.val (Runs.loadB rfl rfl Try.underlying3 rfl k2 rfl) rfl rfl rfl ?_
  refine Seq.val (Runs.fieldB 0 rfl rfl Try.underlying57 rfl (by kernel_rfl)) rfl rfl rfl ?_
  refine Seq.val (Runs.loadB rfl rfl Try.underlying3 rfl k3 rfl) rfl rfl rfl ?_
  refine Seq.val (Runs.neqI rfl rfl rfl) rfl rfl rfl ?_
  refine Seq.val (Runs.move rfl rfl) rfl rfl rfl ?_
  refine SeqC.start ?_
  refine SeqC.open rfl rfl rfl rfl rfl rfl rfl (fun hcx => Runs.fieldB 1 rfl rfl Try.underlying57 rfl (by kernel_rfl)) ?_
  refine SeqC.next rfl rfl rfl rfl rfl rfl rfl (fun hcx => Runs.loadB rfl rfl Try.underlying9 rfl k2 rfl) ?_
  refine SeqC.next rfl rfl rfl rfl rfl rfl rfl (fun hcx => Runs.fieldB 1 rfl rfl Try.underlying57 rfl (by kernel_rfl)) ?_
  refine SeqC.next rfl rfl rfl rfl rfl rfl rfl (fun hcx => Runs.loadB rfl rfl Try.underlying9 rfl k3 rfl) ?_
  refine SeqC.next rfl rfl rfl rfl rfl rfl rfl (fun hcx => Runs.neqL (a := t.name) (b := t.name) rfl rfl rfl hnm hnm) ?_
  refine SeqC.or rfl rfl rfl rfl rfl rfl rfl ?_
  refine Seq.val (Runs.move rfl rfl) rfl rfl rfl ?_
  refine SeqC.start ?_
  refine SeqC.open rfl rfl rfl rfl rfl rfl rfl (fun hcx => Runs.fieldB 2 rfl rfl Try.underlying57 rfl (by kernel_rfl)) ?_
  refine SeqC.next rfl rfl rfl rfl rfl rfl rfl (fun hcx => Runs.loadB rfl rfl Try.underlying25 rfl k2 rfl) ?_
  refine SeqC.next rfl rfl rfl rfl rfl rfl rfl (fun hcx => Runs.len rfl rfl Try.underlying25) ?_
  refine SeqC.next rfl rfl rfl rfl rfl rfl rfl (fun hcx => Runs.fieldB 2 rfl rfl Try.underlying57 rfl (by kernel_rfl)) ?_
  refine SeqC.next rfl rfl rfl rfl rfl rfl rfl (fun hcx => Runs.loadB rfl rfl Try.underlying25 rfl k3 rfl) ?_
  refine SeqC.next rfl rfl rfl rfl rfl rfl rfl (fun hcx => Runs.len rfl rfl Try.underlying25) ?_
  refine SeqC.next rfl rfl rfl rfl rfl rfl rfl (fun hcx => Runs.neqI rfl rfl rfl) ?_
  refine SeqC.or rfl rfl rfl rfl rfl rfl rfl ?_
  refine Seq.val (Runs.move rfl rfl) rfl rfl rfl ?_
  refine SeqC.start ?_
  refine SeqC.open rfl rfl rfl rfl rfl rfl rfl (fun hcx => Runs.fieldB 3 rfl rfl Try.underlying57 rfl (by kernel_rfl)) ?_
  refine SeqC.next rfl rfl rfl rfl rfl rfl rfl (fun hcx => Runs.loadB rfl rfl Try.underlying27 rfl k2 rfl) ?_
  refine SeqC.next rfl rfl rfl rfl rfl rfl rfl (fun hcx => Runs.len rfl rfl Try.underlying27) ?_
  refine SeqC.next rfl rfl rfl rfl rfl rfl rfl (fun hcx => Runs.fieldB 3 rfl rfl Try.underlying57 rfl (by kernel_rfl)) ?_
  refine SeqC.next rfl rfl rfl rfl rfl rfl rfl (fun hcx => Runs.loadB rfl rfl Try.underlying27 rfl k3 rfl) ?_
  refine SeqC.next rfl rfl rfl rfl rfl rfl rfl (fun hcx => Runs.len rfl rfl Try.underlying27) ?_
  refine SeqC.next rfl rfl rfl rfl rfl rfl rfl (fun hcx => Runs.neqI rfl rfl rfl) ?_
  refine SeqC.or rfl rfl rfl rfl rfl rfl rfl ?_
  refine Seq.nil ?_
  refine Post.weak (F' := [(0, _), (1, _), (2, _), (3, _), (4, _), (36, _)]) ⟨rfl, rfl, rfl, rfl, rfl, rfl, trivial⟩ ?_
  refine Post.then_ ?_
  refine Cd.condF rfl (by simp) ?_
  refine Cd.skip ?_
  refine Post.then_ ?_
  refine Cd.seq ?_
  refine Cd.seq ?_
  refine Cd.region ?_
  refine Seq.val (Runs.assign rfl rfl) rfl rfl rfl ?_
  refine Seq.nil ?_
  refine Post.weak (F' := [(0, _), (1, _), (2, _), (3, _), (4, _), (5, _), (36, _)]) ⟨rfl, rfl, rfl, rfl, rfl, rfl, rfl, trivial⟩ ?_
  refine Post.then_ ?_
  refine Cd.block ?_
  refine Cd.loop (σ := Nat) (fun i => [(2, .pointer (some ⟨g2, 0, none⟩)), (3, .pointer (some ⟨g3, 0, none⟩)), (5, .int .i64 (i : Int))])
    (fun i wr => i ≤ t.exprs.length ∧ Below w.heap.size w wr ∧ Blk wr g2 57 #[.int .i64 t.op, .string (strOf t.name), .slice A t.exprs.length c, .slice D t.terms.length d] ∧ Blk wr g3 57 #[.int .i64 t.op, .string (strOf t.name), .slice A' t.exprs.length c', .slice D' t.terms.length d']) (fun i => t.exprs.length - i) 0 ⟨Nat.zero_le _, bel, k2, k3⟩ ⟨rfl, rfl, rfl, trivial⟩ ?_
  clear bel k2 k3
  rintro i wr ⟨hi, bel, k2, k3⟩
  refine Cd.seq ?_
  refine Cd.seq ?_
  refine Cd.region ?_
  refine Seq.val (Runs.move rfl rfl) rfl rfl rfl ?_
  refine Seq.val (Runs.fieldB 2 rfl rfl Try.underlying57 rfl (by kernel_rfl)) rfl rfl rfl ?_
  refine Seq.val (Runs.loadB rfl rfl Try.underlying25 rfl k2 rfl) rfl rfl rfl ?_
  refine Seq.val (Runs.len rfl rfl Try.underlying25) rfl rfl rfl ?_
  refine Seq.val (Runs.lss rfl rfl rfl) rfl rfl rfl ?_
  refine Seq.nil ?_
  refine Post.weak (F' := [(2, _), (3, _), (5, _), (41, _)]) ⟨rfl, rfl, rfl, rfl, trivial⟩ ?_
  refine Post.then_ ?_
  refine Cd.condD rfl (fun hc => ?_) (fun hc => ?_)
  · obtain ⟨x, hx⟩ : ∃ x, t.exprs[i]? = some x := ⟨_, List.getElem?_eq_getElem (show i < t.exprs.length by omega)⟩
    obtain ⟨ad, Ax, cx, rfl, hbl, hrx, hc⟩ := hv.expr i x hx
    obtain ⟨ad', Ax', cx', rfl, hbl', hrx', hc'⟩ := hv'.expr i x hx
    have hc := fun W (hb : Below w.heap.size w W) j u hj => ((hb.mono hB).cell (p := (ad.add (i * 4)).add j) (by rw [block_of_add, block_of_add]; exact hbl)).trans (hc j u hj)
    have hc' := fun W (hb : Below w.heap.size w W) j u hj => ((hb.mono hB).cell (p := (ad'.add (i * 4)).add j) (by rw [block_of_add, block_of_add]; exact hbl')).trans (hc' j u hj)
    have hrec := fun W (hb : Below w.heap.size w W) => sameExpr_any x.nodes x B _ _ W (Nat.le_refl _) (hrx.below (hb.mono hB)) (hrx'.below (hb.mono hB)) (Nat.le_trans hB hb.size)
    refine Cd.skip ?_
    refine Post.then_ ?_
    refine Cd.seq ?_
    refine Cd.block ?_
    refine Cd.seq ?_
    refine Cd.draw 12 (by kernel_rfl) [] (.inl rfl) rfl Grow Grow.refl (fun _ _ _ => Grow.trans) ?_
    intro w3 hw3 zw3
    replace bel := bel.step hw3
    replace k2 := k2.step hw3
    replace k3 := k3.step hw3
    have zbel := bel.size
    have zlt := k3.lt
    refine Dr.val Grow.refl rfl (fun w hG => Runs.fieldB 2 rfl rfl Try.underlying57 rfl (by kernel_rfl)) rfl ?_
    refine Dr.val Grow.refl rfl (fun w hG => Runs.loadB rfl rfl Try.underlying25 rfl (k2.step hG) rfl) rfl ?_
    refine Dr.val Grow.refl rfl (fun w hG => Runs.move rfl rfl) rfl ?_
    refine Dr.val Grow.refl rfl (fun w hG => Runs.indexN rfl rfl rfl Try.underlying25 (s := 4) (by kernel_rfl) (j := i) rfl (by omega)) rfl ?_
    refine Dr.val Grow.refl rfl (fun w hG => Runs.loadF (ps := [.int .i64 x.op, .int .i64 x.n, .string (strOf x.name), .slice Ax x.args.length cx]) rfl rfl Try.underlying35 rfl (m := 4) (by kernel_rfl) rfl (hc _ (bel.step hG))) rfl ?_
    refine Dr.val Grow.refl rfl (fun w hG => Runs.fieldB 2 rfl rfl Try.underlying57 rfl (by kernel_rfl)) rfl ?_
    refine Dr.val Grow.refl rfl (fun w hG => Runs.loadB rfl rfl Try.underlying25 rfl (k3.step hG) rfl) rfl ?_
    refine Dr.val Grow.refl rfl (fun w hG => Runs.move rfl rfl) rfl ?_
    refine Dr.val Grow.refl rfl (fun w hG => Runs.indexN rfl rfl rfl Try.underlying25 (s := 4) (by kernel_rfl) (j := i) rfl (by omega)) rfl ?_
    refine Dr.val Grow.refl rfl (fun w hG => Runs.loadF (ps := [.int .i64 x.op, .int .i64 x.n, .string (strOf x.name), .slice Ax' x.args.length cx']) rfl rfl Try.underlying35 rfl (m := 4) (by kernel_rfl) rfl (hc' _ (bel.step hG))) rfl ?_
    refine Dr.callV rfl (fun w => Enters.func rfl rfl rfl (run_enter Try.func37 (by kernel_rfl) rfl)) rfl (fun w hG => hrec w (bel.step hG)) ?_
    refine Dr.val Grow.refl rfl (fun w hG => Runs.not rfl rfl) rfl ?_
    refine Dr.nil ?_
    refine FinX.done (F' := [(2, _), (3, _), (5, _), (41, _), (55, _)]) rfl ⟨rfl, rfl, rfl, rfl, rfl, trivial⟩ ?_
    intro w4 hw4 fw4
    replace bel := bel.step hw4
    replace k2 := k2.step hw4
    replace k3 := k3.step hw4
    refine Seq.nil ?_
    refine Post.weak (F' := [(2, _), (3, _), (5, _), (41, _), (55, _)]) ⟨rfl, rfl, rfl, rfl, rfl, trivial⟩ ?_
    refine Post.then_ ?_
    refine Cd.condF rfl rfl ?_
    refine Cd.skip ?_
    refine Post.block_normal ?_
    refine Post.then_ ?_
    refine Cd.region ?_
    refine Seq.val (Runs.move rfl rfl) rfl rfl rfl ?_
    refine Seq.val (Runs.addI rfl rfl rfl (by omega) (by omega)) rfl rfl rfl ?_
    refine Seq.val (Runs.assign rfl rfl) rfl rfl rfl ?_
    refine Seq.nil ?_
    refine Post.weak (F' := [(2, _), (3, _), (5, _), (41, _), (55, _)]) ⟨rfl, rfl, rfl, rfl, rfl, trivial⟩ ?_
    exact Post.round (i + 1) ⟨rfl, rfl, rfl, trivial⟩ ⟨by omega, bel, k2, k3⟩ (by omega)
  · skip
    refine Cd.exit ?_
    refine Post.then_exit ?_
    refine Post.round_exit ?_
    refine Post.block_exit ?_
    refine Post.then_ ?_
    refine Cd.seq ?_
    refine Cd.seq ?_
    refine Cd.region ?_
    refine Seq.val (Runs.assign rfl rfl) rfl rfl rfl ?_
    refine Seq.nil ?_
    refine Post.weak (F' := [(2, _), (3, _), (5, _), (6, _), (41, _)]) ⟨rfl, rfl, rfl, rfl, rfl, trivial⟩ ?_
    refine Post.then_ ?_
    refine Cd.block ?_
    refine Cd.loop (σ := Nat) (fun i => [(2, .pointer (some ⟨g2, 0, none⟩)), (3, .pointer (some ⟨g3, 0, none⟩)), (6, .int .i64 (i : Int))])
      (fun i wr => i ≤ t.terms.length ∧ Below w.heap.size w wr ∧ Blk wr g2 57 #[.int .i64 t.op, .string (strOf t.name), .slice A t.exprs.length c, .slice D t.terms.length d] ∧ Blk wr g3 57 #[.int .i64 t.op, .string (strOf t.name), .slice A' t.exprs.length c', .slice D' t.terms.length d']) (fun i => t.terms.length - i) 0 ⟨Nat.zero_le _, bel, k2, k3⟩ ⟨rfl, rfl, rfl, trivial⟩ ?_
    clear bel k2 k3
    rintro i wr ⟨hi, bel, k2, k3⟩
    refine Cd.seq ?_
    refine Cd.seq ?_
    refine Cd.region ?_
    refine Seq.val (Runs.move rfl rfl) rfl rfl rfl ?_
    refine Seq.val (Runs.fieldB 3 rfl rfl Try.underlying57 rfl (by kernel_rfl)) rfl rfl rfl ?_
    refine Seq.val (Runs.loadB rfl rfl Try.underlying27 rfl k2 rfl) rfl rfl rfl ?_
    refine Seq.val (Runs.len rfl rfl Try.underlying27) rfl rfl rfl ?_
    refine Seq.val (Runs.lss rfl rfl rfl) rfl rfl rfl ?_
    refine Seq.nil ?_
    refine Post.weak (F' := [(2, _), (3, _), (6, _), (60, _)]) ⟨rfl, rfl, rfl, rfl, trivial⟩ ?_
    refine Post.then_ ?_
    refine Cd.condD rfl (fun hc => ?_) (fun hc => ?_)
    · obtain ⟨x, hx⟩ : ∃ x, t.terms[i]? = some x := ⟨_, List.getElem?_eq_getElem (show i < t.terms.length by omega)⟩
      obtain ⟨ad, A1, A2, c1, c2, rfl, hbl, hrx, hc⟩ := hv.term i x hx
      obtain ⟨ad', A1', A2', c1', c2', rfl, hbl', hrx', hc'⟩ := hv'.term i x hx
      have hxm := List.mem_of_getElem? hx
      have hxn := Tm.term_nodes hxm
      have hc := fun W (hb : Below w.heap.size w W) j u hj => ((hb.mono hB).cell (p := (ad.add (i * 4)).add j) (by rw [block_of_add, block_of_add]; exact hbl)).trans (hc j u hj)
      have hc' := fun W (hb : Below w.heap.size w W) j u hj => ((hb.mono hB).cell (p := (ad'.add (i * 4)).add j) (by rw [block_of_add, block_of_add]; exact hbl')).trans (hc' j u hj)
      have hrec := fun W (hb : Below w.heap.size w W) => ih x B _ _ W (by omega) (hrx.below (hb.mono hB)) (hrx'.below (hb.mono hB)) (Nat.le_trans hB hb.size)
      refine Cd.skip ?_
      refine Post.then_ ?_
      refine Cd.seq ?_
      refine Cd.block ?_
      refine Cd.seq ?_
      refine Cd.draw 12 (by kernel_rfl) [] (.inl rfl) rfl Grow Grow.refl (fun _ _ _ => Grow.trans) ?_
      intro w3 hw3 zw3
      replace bel := bel.step hw3
      replace k2 := k2.step hw3
      replace k3 := k3.step hw3
      have zbel := bel.size
      have zlt := k3.lt
      refine Dr.val Grow.refl rfl (fun w hG => Runs.fieldB 3 rfl rfl Try.underlying57 rfl (by kernel_rfl)) rfl ?_
      refine Dr.val Grow.refl rfl (fun w hG => Runs.loadB rfl rfl Try.underlying27 rfl (k2.step hG) rfl) rfl ?_
      refine Dr.val Grow.refl rfl (fun w hG => Runs.move rfl rfl) rfl ?_
      refine Dr.val Grow.refl rfl (fun w hG => Runs.indexN rfl rfl rfl Try.underlying27 (s := 4) (by kernel_rfl) (j := i) rfl (by omega)) rfl ?_
      refine Dr.val Grow.refl rfl (fun w hG => Runs.loadF (ps := [.int .i64 x.op, .string (strOf x.name), .slice A1 x.exprs.length c1, .slice A2 x.terms.length c2]) rfl rfl Try.underlying57 rfl (m := 4) (by kernel_rfl) rfl (hc _ (bel.step hG))) rfl ?_
      refine Dr.val Grow.refl rfl (fun w hG => Runs.fieldB 3 rfl rfl Try.underlying57 rfl (by kernel_rfl)) rfl ?_
      refine Dr.val Grow.refl rfl (fun w hG => Runs.loadB rfl rfl Try.underlying27 rfl (k3.step hG) rfl) rfl ?_
      refine Dr.val Grow.refl rfl (fun w hG => Runs.move rfl rfl) rfl ?_
      refine Dr.val Grow.refl rfl (fun w hG => Runs.indexN rfl rfl rfl Try.underlying27 (s := 4) (by kernel_rfl) (j := i) rfl (by omega)) rfl ?_
      refine Dr.val Grow.refl rfl (fun w hG => Runs.loadF (ps := [.int .i64 x.op, .string (strOf x.name), .slice A1' x.exprs.length c1', .slice A2' x.terms.length c2']) rfl rfl Try.underlying57 rfl (m := 4) (by kernel_rfl) rfl (hc' _ (bel.step hG))) rfl ?_
      refine Dr.callV rfl (fun w => Enters.func rfl rfl rfl (run_enter Try.func70 (by kernel_rfl) rfl)) rfl (fun w hG => hrec w (bel.step hG)) ?_
      refine Dr.val Grow.refl rfl (fun w hG => Runs.not rfl rfl) rfl ?_
      refine Dr.nil ?_
      refine FinX.done (F' := [(2, _), (3, _), (6, _), (60, _), (74, _)]) rfl ⟨rfl, rfl, rfl, rfl, rfl, trivial⟩ ?_
      intro w4 hw4 fw4
      replace bel := bel.step hw4
      replace k2 := k2.step hw4
      replace k3 := k3.step hw4
      refine Seq.nil ?_
      refine Post.weak (F' := [(2, _), (3, _), (6, _), (60, _), (74, _)]) ⟨rfl, rfl, rfl, rfl, rfl, trivial⟩ ?_
      refine Post.then_ ?_
      refine Cd.condF rfl rfl ?_
      refine Cd.skip ?_
      refine Post.block_normal ?_
      refine Post.then_ ?_
      refine Cd.region ?_
      refine Seq.val (Runs.move rfl rfl) rfl rfl rfl ?_
      refine Seq.val (Runs.addI rfl rfl rfl (by omega) (by omega)) rfl rfl rfl ?_
      refine Seq.val (Runs.assign rfl rfl) rfl rfl rfl ?_
      refine Seq.nil ?_
      refine Post.weak (F' := [(2, _), (3, _), (6, _), (60, _), (74, _)]) ⟨rfl, rfl, rfl, rfl, rfl, trivial⟩ ?_
      exact Post.round (i + 1) ⟨rfl, rfl, rfl, trivial⟩ ⟨by omega, bel, k2, k3⟩ (by omega)
    · skip
      refine Cd.exit ?_
      refine Post.then_exit ?_
      refine Post.round_exit ?_
      refine Post.block_exit ?_
      refine Post.then_ ?_
      refine Cd.seq ?_
      refine Cd.region ?_
      refine Seq.val (Runs.assign rfl rfl) rfl rfl rfl ?_
      refine Seq.nil ?_
      refine Post.weak (F' := [(2, _), (3, _), (4, _), (6, _), (60, _)]) ⟨rfl, rfl, rfl, rfl, rfl, trivial⟩ ?_
      refine Post.then_ ?_
      refine Cd.ret ?_
      refine Post.end1 rfl rfl (.inl rfl) ?_
      exact ⟨rfl, bel⟩
end Go.Proofs.Ytijaldpmpjapiaa

namespace Go.Proofs.Ytijaldpmpjapiaa
open Go.RowKit

def sampT : List Nat := [119, 104, 101, 110, 40, 100, 97, 121, 32, 62, 61, 32, 50, 48, 50, 52, 45, 48, 49, 45, 51, 49, 44, 32, 111, 110, 101, 40, 85, 83, 68, 41, 41]
def wantE : Ex := .mk 15 0 [] [.mk 4 0 [] [], .mk 2 19753 [] []]
def wantU : Tm := .mk 2 [85, 83, 68] [] []
def wantT : Tm := .mk 7 [] [wantE] [wantU]
theorem parse_samp : parseT sampT = (wantT, 0, 0) := by kernel_rfl
theorem RepT.when {w : World} {g g' : Nat} {o : Int} {a : Ex} {b : Tm} {va vb : Value} {cs cs' : Array Value} (k : Blk w g 35 cs) (hcs : cs.toList = flatC [va]) (k' : Blk w g' 57 cs') (hcs' : cs'.toList = flatC [vb]) (ho : I64 o) (ha : Rep w w.heap.size a va) (hb : RepB w w.heap.size b vb) :
    RepB w w.heap.size (.mk o [] [a] [b]) (.agg #[.int .i64 o, .string (strOf []), .slice (some ⟨g, 0, none⟩) 1 1, .slice (some ⟨g', 0, none⟩) 1 1]) := by
  refine RepT.mk (es := [a]) (ts := [b]) (vs := [va]) (us := [vb]) rfl rfl (by simp) (by simp) ho (by simp) (by simp) (fun i e v he hv => ?_) (fun i e v he hv => ?_) (fun _ => ?_) fun _ => ?_
  · match i, he, hv with
    | 0, he, hv => injection he with he; injection hv with hv; subst he hv; exact ha
    | i + 1, he, hv => cases he
  · match i, he, hv with
    | 0, he, hv => injection he with he; injection hv with hv; subst he hv; exact hb
    | i + 1, he, hv => cases he
  · refine ⟨⟨g, 0, none⟩, rfl, k.lt, fun j u hu => ?_⟩
    rw [← hcs] at hu
    have hadd : (⟨g, 0, none⟩ : Addr).add j = ⟨g, j, none⟩ := by unfold Addr.add; split <;> simp_all
    rw [hadd, k.cell j]
    simpa using hu
  · refine ⟨⟨g', 0, none⟩, rfl, k'.lt, fun j u hu => ?_⟩
    rw [← hcs'] at hu
    have hadd : (⟨g', 0, none⟩ : Addr).add j = ⟨g', j, none⟩ := by unfold Addr.add; split <;> simp_all
    rw [hadd, k'.cell j]
    simpa using hu
theorem RepT.name (w : World) (S : Nat → Prop) (o : Int) (nm : List Nat) (ho : I64 o) (hn : ∀ d ∈ nm, d < 256) (hl : nm.length ≤ 9223372036854775807) : RepT w S (.mk o nm [] []) (.agg #[.int .i64 o, .string (strOf nm), .slice none 0 0, .slice none 0 0]) :=
  RepT.mk (es := []) (ts := []) (vs := []) (us := []) rfl rfl (by decide) (by decide) ho hn hl (fun i e v he => by cases he) (fun i e v he => by cases he) (fun h => absurd rfl h) fun h => absurd rfl h
theorem run_build_E1 (a : Int) (w : World) : (Instr.build 35 #[(0, .int .i64 a)]).run Try.prog w = .ok (.agg #[.int .i64 a, .int .i64 0, .string (strOf []), .slice none 0 0]) w := run_build_Eop a w
theorem run_build_Tn (a : Int) (s : ByteArray) (w : World) : (Instr.build 57 #[(0, .int .i64 a), (1, .string s)]).run Try.prog w = .ok (.agg #[.int .i64 a, .string s, .slice none 0 0, .slice none 0 0]) w := by
  have hu := Try.underlying57
  go_simp
theorem run_build_T2 (a : Int) (A A' : Option Addr) (n c n' c' : Nat) (w : World) : (Instr.build 57 #[(0, .int .i64 a), (2, .slice A n c), (3, .slice A' n' c')]).run Try.prog w = .ok (.agg #[.int .i64 a, .string (strOf []), .slice A n c, .slice A' n' c']) w := by
  have hu := Try.underlying57
  go_simp
  rfl
theorem awake19_any (w : World) : Calls Try.prog 35 #[] w fun e w' => e = .returned (.bool true) ∧ Grow w w' := by
  have bel := Below.refl w.heap.size w
  refine Calls.start 29 Try.func35 rfl rfl rfl ?_
  have hps := fun W => parse_any sampT W (by decide) (by decide)
  rw [parse_samp] at hps
  refine Cd.seq ?_
  refine Cd.region ?_
  refine Seq.val (Runs.assign rfl rfl) rfl rfl rfl ?_
  refine Seq.nil ?_
  refine Post.weak (F' := [(0, _)]) ⟨rfl, trivial⟩ ?_
  refine Post.then_ ?_
  refine Cd.seq ?_
  refine Cd.region ?_
  refine Seq.call (Enters.func rfl rfl rfl (run_enter Try.func33 (by kernel_rfl) rfl)) rfl rfl rfl (hps _) ?_
  rintro en w5 ⟨hb5, v, S, rfl, hrep, hS⟩
  refine ⟨_, rfl, ?_⟩
  have bel5 := bel.step hb5
  have hrb : RepB w5 w5.heap.size wantT v := hrep.mono (fun b hb => (hS b hb).2) (fun _ _ => rfl)
  obtain ⟨A, c, A', c', rfl⟩ := hrep.form
  clear bel
  have bel := Below.refl w5.heap.size w5
  refine Seq.val (Runs.move rfl rfl) rfl rfl rfl ?_
  refine Seq.val (Runs.extract rfl rfl rfl) rfl rfl rfl ?_
  refine Seq.val (Runs.extract rfl rfl rfl) rfl rfl rfl ?_
  refine Seq.val (Runs.extract rfl rfl rfl) rfl rfl rfl ?_
  refine Seq.alloc rfl (run_zero zero_api_Term) rfl rfl rfl ?_
  intro g1 w1 n1
  have e1 := Nat.le_trans bel.size n1.ge
  replace bel := bel.step n1.below
  have k1 := n1.blk
  refine Seq.storeN rfl rfl rfl rfl (m := 4) (by kernel_rfl) rfl (by repeat' first | exact trivial | apply And.intro | rfl | assumption) k1 (by simp [Value.cells]) rfl rfl ?_
  intro w2 pw2
  replace bel := bel.put k1 pw2 e1
  replace k1 := pw2.blk
  refine Seq.val (Runs.assign rfl rfl) rfl rfl rfl ?_
  refine Seq.val (Runs.assign rfl rfl) rfl rfl rfl ?_
  refine Seq.nil ?_
  refine Post.weak (F' := [(0, _), (1, _), (2, _), (3, _)]) ⟨rfl, rfl, rfl, rfl, trivial⟩ ?_
  refine Post.then_ ?_
  refine Cd.seq ?_
  refine Cd.region ?_
  refine Seq.val (Runs.build rfl rfl (run_build_E1 4 _)) rfl rfl rfl ?_
  refine Seq.val (Runs.build rfl rfl (run_build_c 2 19753 _)) rfl rfl rfl ?_
  refine Seq.slice (vs := [_, _]) (s := 4) rfl rfl rfl Try.underlying25 (by kernel_rfl) (zero_api_Expr) (by omega) (by omega) ⟨rfl, rfl, trivial⟩ rfl rfl rfl ?_
  intro g12 w3 n12
  have e12 := Nat.le_trans bel.size n12.ge
  have l12 := Nat.lt_of_lt_of_le k1.lt n12.ge
  replace bel := bel.step n12.below
  replace k1 := k1.step n12.below
  have k12 := n12.blk
  have r1 : ∀ W o z, I64 o → I64 z → Rep W W.heap.size (.mk o z [] []) (.agg #[.int .i64 o, .int .i64 z, .string (strOf []), .slice none 0 0]) := fun W o z ho hz => Rep.const W o z _ ho hz
  have i2 : I64 2 := by unfold I64; omega
  have i4 : I64 4 := by unfold I64; omega
  have i7 : I64 7 := by unfold I64; omega
  have i15 : I64 15 := by unfold I64; omega
  have i0 : I64 0 := by unfold I64; omega
  have i9 : I64 19753 := by unfold I64; omega
  have hab : Rep _ _ wantE _ := Rep.two k12 rfl i15 (r1 _ 4 0 i4 i0) (r1 _ 2 19753 i2 i9)
  refine Seq.val (Runs.build rfl rfl (run_build_s 15 g12 _)) rfl rfl rfl ?_
  refine Seq.slice (vs := [_]) (s := 4) rfl rfl rfl Try.underlying25 (by kernel_rfl) (zero_api_Expr) (by omega) (by omega) ⟨rfl, trivial⟩ rfl rfl rfl ?_
  intro g14 w4 n14
  have e14 := Nat.le_trans bel.size n14.ge
  have l14 := Nat.lt_of_lt_of_le k1.lt n14.ge
  replace bel := bel.step n14.below
  replace k1 := k1.step n14.below
  replace hab := hab.step n14.below
  have k14 := n14.blk
  refine Seq.val (Runs.build rfl rfl (run_build_Tn 2 { data := #[85, 83, 68] } _)) rfl rfl rfl ?_
  refine Seq.slice (vs := [_]) (s := 4) rfl rfl rfl Try.underlying27 (by kernel_rfl) (zero_api_Term) (by omega) (by omega) ⟨rfl, trivial⟩ rfl rfl rfl ?_
  intro g16 w5 n16
  have e16 := Nat.le_trans bel.size n16.ge
  have l16 := Nat.lt_of_lt_of_le k14.lt n16.ge
  have l16_k1 := Nat.lt_of_lt_of_le k1.lt n16.ge
  replace bel := bel.step n16.below
  replace k1 := k1.step n16.below
  replace hab := hab.step n16.below
  replace k14 := k14.step n16.below
  have k16 := n16.blk
  refine Seq.val (Runs.build rfl rfl (run_build_T2 7 _ _ _ _ _ _ _)) rfl rfl rfl ?_
  have hwt : RepB _ _ wantT _ := RepT.when k14 rfl k16 rfl i7 hab (RepT.name _ _ 2 [85, 83, 68] i2 (by decide) (by decide))
  have belA := bel
  refine Seq.alloc rfl (run_zero zero_api_Term) rfl rfl rfl ?_
  intro g4 w6 n4
  have e4 := Nat.le_trans bel.size n4.ge
  have l4 := Nat.lt_of_lt_of_le k1.lt n4.ge
  replace bel := bel.step n4.below
  replace k1 := k1.step n4.below
  have k4 := n4.blk
  refine Seq.storeN rfl rfl rfl rfl (m := 4) (by kernel_rfl) rfl (by repeat' first | exact trivial | apply And.intro | rfl | assumption) k4 (by simp [Value.cells]) rfl rfl ?_
  intro w7 pw7
  replace bel := bel.put k4 pw7 e4
  replace k1 := k1.put pw7 (by omega)
  replace k4 := pw7.blk
  refine Seq.nil ?_
  refine Post.weak (F' := [(0, _), (1, _), (2, _), (3, _), (4, _)]) ⟨rfl, rfl, rfl, rfl, rfl, trivial⟩ ?_
  refine Post.then_ ?_
  refine Cd.seq ?_
  refine Cd.region ?_
  refine Seq.val (Runs.move rfl rfl) rfl rfl rfl ?_
  refine Seq.val (Runs.eqlI rfl rfl rfl) rfl rfl rfl ?_
  refine Seq.val (Runs.move rfl rfl) rfl rfl rfl ?_
  refine SeqC.start ?_
  refine SeqC.open rfl rfl rfl rfl rfl rfl rfl (fun hcx => Runs.move rfl rfl) ?_
  refine SeqC.next rfl rfl rfl rfl rfl rfl rfl (fun hcx => Runs.eqlI rfl rfl rfl) ?_
  refine SeqC.and rfl rfl rfl rfl rfl rfl rfl ?_
  refine Seq.val (Runs.move rfl rfl) rfl rfl rfl ?_
  refine SeqC.start ?_
  refine SeqC.open rfl rfl rfl rfl rfl rfl rfl (fun hcx => Runs.loadW rfl rfl Try.underlying57 rfl k1 (m := 4) (by kernel_rfl) rfl) ?_
  refine SeqC.next rfl rfl rfl rfl rfl rfl rfl (fun hcx => Runs.loadW rfl rfl Try.underlying57 rfl k4 (m := 4) (by kernel_rfl) rfl) ?_
  have hb4 := pw7.below_of n4.below n4.ge (by have := k4.lt; have := pw7.size; omega)
  have r2 := (hwt.below hb4).more hb4.size
  have r3 := (hrb.below bel).more bel.size
  refine SeqC.nextC rfl rfl rfl rfl rfl rfl rfl (fun hcx => Enters.func rfl rfl rfl (run_enter Try.func70 (by kernel_rfl) rfl)) (fun hcx => (sameTerm_any wantT.nodes wantT _ _ _ _ (Nat.le_refl _) r3 r2 (Nat.le_refl _))) ?_
  intro w8 hw8
  replace bel := bel.step hw8
  replace k1 := k1.step hw8
  replace k4 := k4.step hw8
  refine SeqC.and rfl rfl rfl rfl rfl rfl rfl ?_
  refine Seq.val (Runs.assign rfl rfl) rfl rfl rfl ?_
  refine Seq.nil ?_
  refine Post.weak (F' := [(0, _), (1, _), (2, _), (3, _), (4, _)]) ⟨rfl, rfl, rfl, rfl, rfl, trivial⟩ ?_
  refine Post.then_ ?_
  refine Cd.ret ?_
  refine Post.end1 rfl rfl (.inl rfl) ?_
  exact ⟨ret1 (bool_eq (by rfl)), bel5.trans (bel.mono bel5.size)⟩
end Go.Proofs.Ytijaldpmpjapiaa

namespace Go.Proofs.Ytijaldpmpjapiaa
open Go.RowKit

/-- A byte at which a word may begin. -/
def Begin (c : Nat) : Prop := c ≠ 32 ∧ c ≠ 9 ∧ c ≠ 10 ∧ c ≠ 35
end Go.Proofs.Ytijaldpmpjapiaa

namespace Go.Proofs.Ytijaldpmpjapiaa
open Go.RowKit

/-- No part goes on across a place. -/
def Bnd (l : List Nat) (p : Nat) : Prop := ∀ c d, 0 < p → l[p - 1]? = some c → l[p]? = some d → partB c = true → partB d = true → False
end Go.Proofs.Ytijaldpmpjapiaa

namespace Go.Proofs.Ytijaldpmpjapiaa
open Go.RowKit

theorem Bnd.drop {l : List Nat} {p m : Nat} (h : Bnd l (p + m)) (hm : 0 < m) : Bnd (l.drop p) m := by
  intro c d h0 hc hd
  rw [List.getElem?_drop] at hc hd
  exact h c d (by omega) (by rw [← hc]; congr 1; omega) hd
end Go.Proofs.Ytijaldpmpjapiaa

namespace Go.Proofs.Ytijaldpmpjapiaa

section
variable {α β : Type} {ws : List Wd} {j : Nat}
/-- What is taken ahead of the cut is taken on the front; what goes on behind it stops there, or ends there. -/
def Goes (j : Nat) (r r' : Rs α) : Prop := ∀ a q, r = .ok a q → (q ≤ j ∧ r' = .ok a q) ∨ (j < q ∧ (r' = .bad j false ∨ ∃ a', r' = .ok a' j))
/-- The same; it doesn't end there. -/
def Stops (j : Nat) (r r' : Rs α) : Prop := ∀ a q, r = .ok a q → (q ≤ j ∧ r' = .ok a q) ∨ (j < q ∧ r' = .bad j false)
theorem Stops.goes {r r' : Rs α} (h : Stops j r r') : Goes j r r' := fun a q e => (h a q e).imp id fun h => ⟨h.1, .inl h.2⟩
def Cut (j : Nat) (f f' : Nat → Nat → Rs α) (m : Nat) : Prop := ∀ p d, m ≤ p → p ≤ j → Goes j (f p d) (f' p d)
def CutS (j : Nat) (f f' : Nat → Nat → Rs α) (m : Nat) : Prop := ∀ p d, m ≤ p → p ≤ j → Stops j (f p d) (f' p d)
theorem CutS.cut {f f' : Nat → Nat → Rs α} {m : Nat} (h : CutS j f f' m) : Cut j f f' m := fun p d h1 h2 => (h p d h1 h2).goes
theorem Cut.up {f f' : Nat → Nat → Rs α} {m m' : Nat} (h : Cut j f f' m) (hm : m ≤ m') : Cut j f f' m' := fun p d h1 h2 => h p d (by omega) h2
theorem Stops.bind {r r' : Rs α} {f f' : α → Nat → Rs β} (h : Stops j r r') (hq : ∀ a p b q, f a p = .ok b q → p ≤ q) (hf : ∀ a p, r = .ok a p → p ≤ j → Stops j (f a p) (f' a p)) : Stops j (r.bind f) (r'.bind f') := fun b q e => by
  obtain ⟨a, p, h1, e⟩ := Rs.bind_eq_ok e
  have := hq _ _ _ _ e
  rcases h a p h1 with ⟨h2, h3⟩ | ⟨h2, h3⟩
  · rw [h3]; exact hf a p h1 h2 b q e
  · rw [h3]; exact .inr ⟨by omega, rfl⟩
theorem Stops.same {a : α} {p : Nat} (h : p ≤ j) : Stops j (.ok a p) (.ok a p) := fun b q e => by
  injection e with e1 e2
  subst e1 e2
  exact .inl ⟨h, rfl⟩
theorem Stops.bad {p : Nat} {o : Bool} {r' : Rs α} : Stops j (.bad p o) r' := fun b q e => by cases e
theorem map_fst (k : Nat) (f f' : Nat → Nat → Rs α) : (List.replicate k (f, f')).map Prod.fst = List.replicate k f := by rw [List.map_replicate]
theorem map_snd (k : Nat) (f f' : Nat → Nat → Rs α) : (List.replicate k (f, f')).map Prod.snd = List.replicate k f' := by rw [List.map_replicate]
theorem Goes.bind {r r' : Rs α} {f f' : α → Nat → Rs β} (h : Goes j r r') (hq : ∀ a p b q, f a p = .ok b q → p ≤ q) (hf : ∀ a p, r = .ok a p → p ≤ j → Goes j (f a p) (f' a p)) (he : ∀ a, ∃ b, f' a j = .ok b j) : Goes j (r.bind f) (r'.bind f') := fun b q e => by
  obtain ⟨a, p, h1, e⟩ := Rs.bind_eq_ok e
  have := hq _ _ _ _ e
  rcases h a p h1 with ⟨h2, h3⟩ | ⟨h2, h3 | ⟨a', h3⟩⟩
  · rw [h3]; exact hf a p h1 h2 b q e
  · rw [h3]; exact .inr ⟨by omega, .inl rfl⟩
  · rw [h3]
    obtain ⟨b', hb⟩ := he a'
    exact .inr ⟨by omega, .inr ⟨b', hb⟩⟩
theorem Goes.same {a : α} {p : Nat} (h : p ≤ j) : Goes j (.ok a p) (.ok a p) := (Stops.same h).goes
end
/-- The ways of going, on the words and on a front of them. -/
structure CutF (j : Nat) (f f' : PF) (m : Nat) : Prop where
  E : ∀ lvl, Cut j (f.E lvl) (f'.E lvl) m
  L : ∀ lvl x p d, m ≤ p → p ≤ j → Goes j (f.L lvl x p d) (f'.L lvl x p d)
  S : Cut j f.S f'.S m
  fin : m ≤ j → ∀ lvl x d, f'.L lvl x j d = .ok x j
theorem Goes.map {α β : Type} {j : Nat} {r r' : Rs α} (h : Goes j r r') (f : α → β) : Goes j (r.map f) (r'.map f) := h.bind (fun a p b q e => by injection e with _ e; omega) (fun a p _ hp => Goes.same hp) (fun a => ⟨_, rfl⟩)
end Go.Proofs.Ytijaldpmpjapiaa

namespace Go.Proofs.Ytijaldpmpjapiaa
open Go.RowKit

theorem runN_app (p : Nat → Bool) (h : p 32 = false) (r : List Nat) : ∀ s, runN p (s ++ 32 :: r) = runN p s
  | [] => by show runN p (32 :: r) = 0; rw [runN_cons, h]; rfl
  | c :: s => by
    rw [List.cons_append, runN_cons, runN_cons, runN_app p h r s]
theorem numZ_digits2 {l : List Nat} (h : -1 < numZ l) : ∀ c ∈ l, digB c = true := by
  unfold numZ at h
  split at h
  · rename_i ha
    exact List.all_eq_true.1 ha
  · omega
/-- Within a date there is no blank. -/
theorem date_no32 {t : List Nat} (h : dateOk t = true) : 32 ∉ t := by
  unfold dateOk at h
  simp only [Bool.and_eq_true, decide_eq_true_eq] at h
  obtain ⟨⟨⟨h1, h4⟩, h7⟩, hok⟩ := h
  unfold ofOk at hok
  simp only [Bool.and_eq_true, decide_eq_true_eq] at hok
  have hdm := daysZ_m (y := numZ ((t.take 4).drop 0)) (m := numZ ((t.take 7).drop 5)) (by omega)
  have d1 := numZ_digits2 (l := (t.take 4).drop 0) (by omega)
  have d2 := numZ_digits2 (l := (t.take 7).drop 5) (by omega)
  have d3 := numZ_digits2 (l := (t.take 10).drop 8) (by omega)
  intro hm
  obtain ⟨i, hi, he⟩ := List.getElem_of_mem hm
  have hg : t[i]? = some 32 := by rw [List.getElem?_eq_getElem hi, he]
  have h32 : ∀ l : List Nat, (∀ c ∈ l, digB c = true) → 32 ∉ l := fun l h hm => by have := h 32 hm; revert this; decide
  by_cases i4 : i < 4
  · refine h32 _ d1 (List.mem_of_getElem? (i := i) ?_)
    rw [List.drop_zero, List.getElem?_take_of_lt i4]; exact hg
  by_cases e4 : i = 4
  · rw [e4, h4] at hg; cases hg
  by_cases i7 : i < 7
  · refine h32 _ d2 (List.mem_of_getElem? (i := i - 5) ?_)
    rw [List.getElem?_drop, show 5 + (i - 5) = i by omega, List.getElem?_take_of_lt i7]; exact hg
  by_cases e7 : i = 7
  · rw [e7, h7] at hg; cases hg
  · refine h32 _ d3 (List.mem_of_getElem? (i := i - 8) ?_)
    rw [List.getElem?_drop, show 8 + (i - 8) = i by omega, List.getElem?_take_of_lt (by omega)]; exact hg
theorem sign_no32 : ∀ s ∈ signsL, 32 ∉ s := by decide
theorem take_app_lt {s r : List Nat} {k : Nat} (h : k ≤ s.length) : (s ++ r).take k = s.take k := List.take_append_of_le_length h
/-- A word is read the same when a blank, and anything, follows its text's rest. -/
theorem nextW_app {s : List Nat} {k : Int} {t : List Nat} {n : Int} (h : nextW s = some (k, t, n)) (r : List Nat) : nextW (s ++ 32 :: r) = some (k, t, n) := by
  obtain ⟨h1, h2, h3⟩ := nextW_spec h
  cases s with
  | nil => cases h
  | cons a s =>
    have hcons : (a :: s) ++ 32 :: r = a :: (s ++ 32 :: r) := rfl
    rw [nextW_cons] at h
    rw [hcons, nextW_cons, ← hcons]
    have hrun := runN_app partB part32 r (a :: s)
    have hrl := runN_le partB (a :: s)
    by_cases hda : digB a = true
    · rw [if_pos hda] at h ⊢
      have hday : dayOk ((a :: s) ++ 32 :: r) = dayOk (a :: s) := by
        rw [Bool.eq_iff_iff]
        unfold dayOk
        simp only [Bool.and_eq_true, decide_eq_true_eq, Bool.not_eq_true', Bool.and_eq_false_iff, decide_eq_false_iff_not]
        constructor
        · rintro ⟨⟨g1, g2⟩, g3⟩
          have h10 : 10 ≤ (a :: s).length := by
            rcases Nat.lt_or_ge (a :: s).length 10 with h5 | h5
            · exfalso
              refine date_no32 g3 (List.mem_of_getElem? (i := (a :: s).length) ?_)
              rw [List.getElem?_take_of_lt h5, List.getElem?_append_right (Nat.le_refl _), Nat.sub_self]
              rfl
            · exact h5
          rw [take_app_lt h10] at g3
          refine ⟨⟨h10, ?_⟩, g3⟩
          rcases Nat.lt_or_ge 10 (a :: s).length with h5 | h5
          · right
            rcases g2 with g2 | g2
            · rw [List.length_append] at g2; omega
            · rwa [List.getD_eq_getElem?_getD, List.getElem?_append_left h5, ← List.getD_eq_getElem?_getD] at g2
          · left; omega
        · rintro ⟨⟨g1, g2⟩, g3⟩
          rw [take_app_lt g1]
          refine ⟨⟨by rw [List.length_append]; omega, ?_⟩, g3⟩
          right
          rw [List.getD_eq_getElem?_getD]
          rcases Nat.lt_or_ge 10 (a :: s).length with h5 | h5
          · rw [List.getElem?_append_left h5, ← List.getD_eq_getElem?_getD]
            rcases g2 with g2 | g2
            · omega
            · exact g2
          · rw [List.getElem?_append_right h5, show 10 - (a :: s).length = 0 by omega]
            exact part32
      rw [hday]
      by_cases hd : dayOk (a :: s) = true
      · rw [if_pos hd] at h ⊢
        have h10 : 10 ≤ (a :: s).length := by
          unfold dayOk at hd
          simp only [Bool.and_eq_true, decide_eq_true_eq] at hd
          exact hd.1.1
        rw [take_app_lt h10]
        exact h
      · rw [if_neg hd] at h ⊢
        rw [hrun, take_app_lt hrl]
        exact h
    · rw [if_neg hda] at h ⊢
      by_cases hle : letB a = true
      · rw [if_pos hle] at h ⊢
        rw [hrun, take_app_lt hrl]
        exact h
      · rw [if_neg hle] at h ⊢
        have hs : signW ((a :: s) ++ 32 :: r) = signW (a :: s) := by
          unfold signW
          have : ∀ L : List (List Nat), (∀ x ∈ L, 32 ∉ x) → L.find? (fun x => decide (((a :: s) ++ 32 :: r).take x.length = x)) = L.find? (fun x => decide ((a :: s).take x.length = x)) := by
            intro L
            induction L with
            | nil => intro _; rfl
            | cons x L ih =>
              intro hL
              rw [List.find?_cons, List.find?_cons, ih (fun y hy => hL y (by simp [hy]))]
              have : decide (((a :: s) ++ 32 :: r).take x.length = x) = decide ((a :: s).take x.length = x) := by
                rcases Nat.lt_or_ge (a :: s).length x.length with h5 | h5
                · rw [decide_eq_decide]
                  constructor
                  · intro h6
                    exfalso
                    refine hL x (by simp) ?_
                    rw [← h6]
                    refine List.mem_of_getElem? (i := (a :: s).length) ?_
                    rw [List.getElem?_take_of_lt h5, List.getElem?_append_right (Nat.le_refl _), Nat.sub_self]
                    rfl
                  · intro h6
                    exfalso
                    have := congrArg List.length h6
                    rw [List.length_take] at this
                    omega
                · rw [take_app_lt h5]
              rw [this]
          exact this signsL sign_no32
        rw [hs]
        exact h
theorem blankF_app (r : List Nat) : ∀ (s : List Nat) (b : Bool), blankF (s ++ 32 :: 10 :: r) b = if blankF s b = s.length then s.length + 2 + blankF r false else blankF s b
  | [], true => by
    show blankF (32 :: 10 :: r) true = _
    rw [blankF_t, if_neg (by decide), blankF_t, if_pos rfl]
    show blankF r false + 1 + 1 = if (0 : Nat) = 0 then 0 + 2 + blankF r false else 0
    rw [if_pos rfl]; omega
  | [], false => by
    show blankF (32 :: 10 :: r) false = _
    rw [blankF_f, if_pos (by decide), blankF_f, if_pos (by decide)]
    show blankF r false + 1 + 1 = if (0 : Nat) = 0 then 0 + 2 + blankF r false else 0
    rw [if_pos rfl]; omega
  | c :: s, true => by
    rw [List.cons_append, blankF_t, blankF_t, blankF_app r s false, blankF_app r s true, List.length_cons]
    by_cases hc : c = 10
    · rw [if_pos hc, if_pos hc]
      split <;> split <;> omega
    · rw [if_neg hc, if_neg hc]
      split <;> split <;> omega
  | c :: s, false => by
    rw [List.cons_append, blankF_f, blankF_f, blankF_app r s false, blankF_app r s true, List.length_cons]
    by_cases hb : blankB c = true
    · rw [if_pos hb, if_pos hb]
      split <;> split <;> omega
    · rw [if_neg hb, if_neg hb]
      by_cases h35 : c = 35
      · rw [if_pos h35, if_pos h35]
        split <;> split <;> omega
      · rw [if_neg h35, if_neg h35, if_neg (by omega)]
def tailL : List Nat := [41, 32, 35, 32, 41, 32, 109, 111, 114, 101, 10]
/-- A text within parentheses, with blanks and a remark. -/
def wrapL (t : List Nat) : List Nat := 32 :: 40 :: 32 :: (t ++ 32 :: 10 :: tailL)
def shW (x : Wd) : Wd := ⟨x.kind, x.text, x.n, x.pos + 3⟩
theorem wrap_len (t : List Nat) : (wrapL t).length = t.length + 16 := by unfold wrapL tailL; simp
theorem wrap_drop (t : List Nat) (p : Nat) (h : p ≤ t.length) : (wrapL t).drop (3 + p) = t.drop p ++ 32 :: 10 :: tailL := by
  unfold wrapL
  rw [Nat.add_comm]
  show (t ++ 32 :: 10 :: tailL).drop p = _
  rw [List.drop_append_of_le_length h]
theorem lexW_app (t : List Nat) : ∀ (f p f' : Nat), p < t.length → t.length < f + p → (lexW f t p).2 = none → lexW ((lexW f t p).1.length + f') (wrapL t) (3 + p) = ((lexW f t p).1.map shW ++ (lexW f' (wrapL t) (t.length + 5)).1, (lexW f' (wrapL t) (t.length + 5)).2)
  | 0, p, f', hp, hf, _ => by omega
  | f + 1, p, f', hp, hf, h => by
    rw [lexW_step f t p hp] at h ⊢
    cases hn : nextW (t.drop p) with
    | none => rw [hn] at h; cases h
    | some z =>
      obtain ⟨k, w, n⟩ := z
      rw [hn] at h
      dsimp only at h ⊢
      obtain ⟨s1, s2, s3⟩ := nextW_spec hn
      rw [List.length_drop] at s3
      have hb := blankN_le (t.drop (p + w.length))
      rw [List.length_drop] at hb
      have hn2 : nextW ((wrapL t).drop (3 + p)) = some (k, w, n) := by rw [wrap_drop t p (by omega)]; exact nextW_app hn _
      have hbl : blankN ((wrapL t).drop (3 + p + w.length)) = if blankN (t.drop (p + w.length)) = (t.drop (p + w.length)).length then (t.drop (p + w.length)).length + 2 + blankF tailL false else blankN (t.drop (p + w.length)) := by
        rw [Nat.add_assoc, wrap_drop t (p + w.length) (by omega)]
        exact blankF_app _ _ _
      rw [List.length_cons, show (lexW f t (p + w.length + blankN (t.drop (p + w.length)))).1.length + 1 + f' = ((lexW f t (p + w.length + blankN (t.drop (p + w.length)))).1.length + f') + 1 by omega]
      rw [lexW_step _ (wrapL t) (3 + p) (by rw [wrap_len]; omega), hn2]
      dsimp only
      rw [hbl]
      have h0 : blankF tailL false = 0 := rfl
      rw [h0, List.length_drop]
      by_cases hc : blankN (t.drop (p + w.length)) = t.length - (p + w.length)
      · rw [if_pos hc]
        have hend : lexW f t (p + w.length + blankN (t.drop (p + w.length))) = ([], none) := lexW_end _ _ _ (by omega)
        rw [hend, show 3 + p + w.length + (t.length - (p + w.length) + 2 + 0) = t.length + 5 by omega]
        simp [shW]
        omega
      · rw [if_neg hc]
        have ih := lexW_app t f (p + w.length + blankN (t.drop (p + w.length))) f' (by omega) (by omega) h
        rw [show 3 + p + w.length + blankN (t.drop (p + w.length)) = 3 + (p + w.length + blankN (t.drop (p + w.length))) by omega, ih]
        simp [shW]
        omega
def openW : Wd := ⟨0, [40], 0, 1⟩
def closeW (n : Nat) : Wd := ⟨0, [41], 0, n⟩
/-- The words of what is wrapped. -/
theorem lexAll_wrap {t : List Nat} (h : (lexAll t).2 = none) (h0 : (lexAll t).1 ≠ []) : lexAll (wrapL t) = (openW :: ((lexAll t).1.map shW ++ [closeW (t.length + 5)]), none) := by
  have hbt := blankN_le t
  have hlt : blankN t < t.length := by
    rcases Nat.lt_or_ge (blankN t) t.length with h1 | h1
    · exact h1
    · exfalso
      apply h0
      unfold lexAll
      rw [lexW_end _ _ _ h1]
  have hcnt := lexAll_cnt t
  have hb1 : blankN (wrapL t) = 1 := by
    unfold wrapL blankN
    rw [blankF_f, if_pos (by decide), blankF_f, if_neg (by decide), if_neg (by decide)]
  have hn1 : nextW ((wrapL t).drop 1) = some (0, [40], 0) := rfl
  have hb2 : blankN ((wrapL t).drop (1 + 1)) = 1 + blankN t := by
    show blankF (32 :: (t ++ 32 :: 10 :: tailL)) false = _
    rw [blankF_f, if_pos (by decide), blankF_app, if_neg (show ¬ blankF t false = t.length by unfold blankN at hlt; omega)]
    unfold blankN; omega
  unfold lexAll
  rw [hb1, wrap_len]
  rw [lexW_step _ (wrapL t) 1 (by rw [wrap_len]; omega), hn1]
  dsimp only [List.length]
  rw [hb2]
  obtain ⟨f2, hf2⟩ : ∃ f2, t.length + 16 = (lexW (t.length + 1) t (blankN t)).1.length + (f2 + 1) := ⟨t.length + 16 - (lexW (t.length + 1) t (blankN t)).1.length - 1, by unfold lexAll at hcnt; omega⟩
  rw [show 1 + (0 + 1) + (1 + blankN t) = 3 + blankN t by omega, hf2, lexW_app t (t.length + 1) (blankN t) (f2 + 1) hlt (by omega) h]
  have hdq : (wrapL t).drop (t.length + 5) = tailL := by
    rw [show t.length + 5 = 3 + t.length + 2 by omega, ← List.drop_drop, wrap_drop t t.length (Nat.le_refl _), List.drop_length]
    rfl
  rw [lexW_step f2 (wrapL t) (t.length + 5) (by rw [wrap_len]; omega), hdq]
  have hn3 : nextW tailL = some (0, [41], 0) := rfl
  rw [hn3]
  dsimp only [List.length]
  have hdq2 : (wrapL t).drop (t.length + 5 + (0 + 1)) = tailL.drop 1 := by rw [← List.drop_drop, hdq]
  rw [hdq2, show blankN (tailL.drop 1) = 10 from rfl, lexW_end f2 (wrapL t) (t.length + 5 + (0 + 1) + 10) (by rw [wrap_len]; omega)]
  rfl
end Go.Proofs.Ytijaldpmpjapiaa

namespace Go.Proofs.Ytijaldpmpjapiaa

/-- Words that stand within a pair of parentheses. -/
structure Lift (ws ws' : List Wd) : Prop where
  kind : ∀ p, p < ws.length → (wAt ws' (p + 1)).kind = (wAt ws p).kind
  text : ∀ p, p < ws.length → (wAt ws' (p + 1)).text = (wAt ws p).text
  num : ∀ p, p < ws.length → (wAt ws' (p + 1)).n = (wAt ws p).n
  last : (wAt ws' (ws.length + 1)).kind = 0 ∧ (wAt ws' (ws.length + 1)).text = [41]
/-- What is taken is taken one place on, or too many are open; too many are too many. -/
def Lifts {α : Type} (n : Nat) (r r' : Rs α) : Prop := (∀ a q, r = .ok a q → q ≤ n ∧ (r' = .ok a (q + 1) ∨ ∃ p, r' = .bad p true)) ∧ ∀ p, r = .bad p true → ∃ p', r' = .bad p' true
section
variable {α β : Type} {ws ws' : List Wd} {n : Nat}
theorem Lifts.bind {r r' : Rs α} {f f' : α → Nat → Rs β} (h : Lifts n r r') (hf : ∀ a p, r = .ok a p → p ≤ n → Lifts n (f a p) (f' a (p + 1))) : Lifts n (r.bind f) (r'.bind f') := by
  constructor
  · intro b q e
    obtain ⟨a, p, h1, e⟩ := Rs.bind_eq_ok e
    obtain ⟨h2, h3 | ⟨p', h3⟩⟩ := h.1 a p h1
    · rw [h3]; exact (hf a p h1 h2).1 b q e
    · have := ((hf a p h1 h2).1 b q e).1
      rw [h3]; exact ⟨this, .inr ⟨p', rfl⟩⟩
  · intro p e
    cases r with
    | out => cases e
    | bad p0 o =>
      injection e with e1 e2
      subst e2
      obtain ⟨p', h3⟩ := h.2 p0 rfl
      rw [h3]; exact ⟨p', rfl⟩
    | ok a p0 =>
      obtain ⟨h2, h3 | ⟨p', h3⟩⟩ := h.1 a p0 rfl
      · rw [h3]; exact (hf a p0 rfl h2).2 p e
      · rw [h3]; exact ⟨p', rfl⟩
theorem Lifts.ok {a : α} {p : Nat} (h : p ≤ n) : Lifts n (.ok a p) (.ok a (p + 1)) := ⟨fun b q e => by injection e with e1 e2; subst e1 e2; exact ⟨h, .inl rfl⟩, fun q e => by cases e⟩
theorem Lifts.bad {p : Nat} {r' : Rs α} : Lifts n (.bad p false) r' := ⟨fun b q e => (by cases e), fun q e => (by cases e)⟩
theorem Lifts.out {r' : Rs α} : Lifts n .out r' := ⟨fun b q e => (by cases e), fun q e => (by cases e)⟩
theorem isS_lt {p : Nat} {s : List Nat} (h : isS ws p s = true) : p < ws.length := by
  rcases Nat.lt_or_ge p ws.length with h1 | h1
  · exact h1
  · unfold isS at h
    rw [wAt_end h1] at h
    simp at h
theorem Lift.isS (L : Lift ws ws') {p : Nat} (h : p < ws.length) (s : List Nat) : Go.Proofs.Ytijaldpmpjapiaa.isS ws' (p + 1) s = Go.Proofs.Ytijaldpmpjapiaa.isS ws p s := by
  unfold Go.Proofs.Ytijaldpmpjapiaa.isS
  rw [L.kind p h, L.text p h]
theorem Lift.sign (L : Lift ws ws') (s : List Nat) (p : Nat) : Lifts ws.length (signQ ws s p) (signQ ws' s (p + 1)) := by
  unfold signQ
  by_cases h : Go.Proofs.Ytijaldpmpjapiaa.isS ws p s = true
  · have hp := isS_lt h
    rw [if_pos h, if_pos (by rw [L.isS hp]; exact h)]
    exact Lifts.ok hp
  · rw [if_neg h]; exact Lifts.bad
theorem enter_lift {p d : Nat} (h : p ≤ n) : Lifts n (enterP p d) (enterP (p + 1) (d + 1)) := by
  unfold enterP
  by_cases h1 : 64 < d + 1
  · rw [if_pos h1, if_pos (by omega)]
    exact ⟨fun a q e => (by cases e), fun q e => ⟨_, rfl⟩⟩
  · rw [if_neg h1]
    by_cases h2 : 64 < d + 1 + 1
    · rw [if_pos h2]
      exact ⟨fun a q e => by injection e with e1 e2; subst e2; exact ⟨h, .inr ⟨_, rfl⟩⟩, fun q e => by cases e⟩
    · rw [if_neg h2]; exact Lifts.ok h
def LiftF (n : Nat) (f f' : Nat → Nat → Rs α) : Prop := ∀ p d, p ≤ n → Lifts n (f p d) (f' (p + 1) (d + 1))
theorem Lift.parts (L : Lift ws ws') : ∀ (M : List ((Nat → Nat → Rs α) × (Nat → Nat → Rs α))), (∀ x ∈ M, LiftF ws.length x.1 x.2) → ∀ first p d, p ≤ ws.length → Lifts ws.length (partsP ws (M.map Prod.fst) first p d) (partsP ws' (M.map Prod.snd) first (p + 1) (d + 1))
  | [], _, first, p, d, hp => Lifts.ok hp
  | x :: M, hM, first, p, d, hp => by
    rw [List.map_cons, List.map_cons, partsP, partsP]
    refine Lifts.bind ?_ fun u p1 _ hp1 => ?_
    · split
      · exact Lifts.ok hp
      · exact L.sign [44] p
    refine (hM x (by simp) p1 d hp1).bind fun y p2 _ hp2 => ?_
    exact (L.parts M (fun z hz => hM z (by simp [hz])) false p2 d hp2).bind fun ys p3 _ hp3 => Lifts.ok hp3
theorem Lift.within (L : Lift ws ws') (M : List ((Nat → Nat → Rs α) × (Nat → Nat → Rs α))) (hM : ∀ x ∈ M, LiftF ws.length x.1 x.2) (p d : Nat) : Lifts ws.length (withinP ws (M.map Prod.fst) p d) (withinP ws' (M.map Prod.snd) (p + 1) (d + 1)) := by
  unfold withinP
  refine (L.sign [40] p).bind fun u p1 _ hp1 => ?_
  refine (enter_lift hp1).bind fun u2 p2 _ hp2 => ?_
  refine (L.parts M hM true p2 (d + 1) hp2).bind fun xs p3 _ hp3 => ?_
  exact (L.sign [41] p3).bind fun u4 p4 _ hp4 => Lifts.ok hp4
theorem Lift.called (L : Lift ws ws') {E0 E0' : Nat → Nat → Rs Ex} (hE : LiftF ws.length E0 E0') (op : Int) (k p d : Nat) : Lifts ws.length (calledP ws E0 op k p d) (calledP ws' E0' op k (p + 1) (d + 1)) := by
  unfold calledP
  have := L.within (List.replicate k (E0, E0')) (fun x hx => by rw [(List.mem_replicate.1 hx).2]; exact hE) (p + 1) d
  rw [map_fst, map_snd] at this
  exact this.bind fun xs q _ hq => Lifts.ok hq
theorem Lift.name (L : Lift ws ws') {p : Nat} (h : p < ws.length) : Lifts ws.length (nameP ws p) (nameP ws' (p + 1)) := by
  unfold nameP
  rw [L.kind p h, L.text p h]
  split
  · exact Lifts.ok h
  · exact Lifts.bad
theorem Lift.atom (L : Lift ws ws') {E0 E0' : Nat → Nat → Rs Ex} (hE : LiftF ws.length E0 E0') {p : Nat} (d : Nat) (h : p < ws.length) : Lifts ws.length (atomP ws E0 p d) (atomP ws' E0' (p + 1) (d + 1)) := by
  unfold atomP
  rw [L.kind p h, L.text p h, L.num p h]
  split
  · exact Lifts.ok h
  split
  · exact Lifts.ok h
  split
  · split
    · exact Lifts.ok h
    split
    · exact L.called hE 9 2 p d
    split
    · exact L.called hE 10 2 p d
    split
    · exact L.called hE 21 3 p d
    exact (L.name h).bind fun nm q _ hq => Lifts.ok hq
  split
  · exact (L.within [(E0, E0')] (fun x hx => by rw [List.mem_singleton.1 hx]; exact hE) p d).bind fun xs q _ hq => Lifts.ok hq
  exact Lifts.bad
theorem ahead_lift {S S' : Nat → Nat → Rs Ex} (hS : LiftF n S S') (op : Int) {p : Nat} (d : Nat) (h : p < n) : Lifts n (aheadP S op p d) (aheadP S' op (p + 1) (d + 1)) := by
  unfold aheadP
  refine Lifts.bind (r := enterP p d) (enter_lift (Nat.le_of_lt h)) fun u p1 e _ => ?_
  have := (enterP_ok e).1
  exact (hS (p1 + 1) (d + 1) (by omega)).bind fun x q _ hq => Lifts.ok hq
theorem Lift.unary (L : Lift ws ws') {S S' E0 E0' : Nat → Nat → Rs Ex} (hS : LiftF ws.length S S') (hE : LiftF ws.length E0 E0') : LiftF ws.length (unaryP ws S E0) (unaryP ws' S' E0') := fun p d hp => by
  rcases Nat.lt_or_ge p ws.length with h | h
  · unfold unaryP
    rw [L.isS h, L.isS h]
    split
    · exact ahead_lift hS 19 d h
    · split
      · exact ahead_lift hS 20 d h
      · exact L.atom hE d h
  · rw [unaryP_end h]; exact Lifts.bad
theorem Lift.opAt (L : Lift ws ws') {p : Nat} (lvl : Nat) (h : p ≤ ws.length) : Go.Proofs.Ytijaldpmpjapiaa.opAt ws' lvl (p + 1) = Go.Proofs.Ytijaldpmpjapiaa.opAt ws lvl p := by
  rcases Nat.lt_or_ge p ws.length with h1 | h1
  · unfold Go.Proofs.Ytijaldpmpjapiaa.opAt
    rw [L.kind p h1, L.text p h1]
  · obtain rfl : p = ws.length := by omega
    unfold Go.Proofs.Ytijaldpmpjapiaa.opAt
    have : ([41] : List Nat) ∉ signsAt lvl := by
      unfold signsAt
      split <;> decide
    rw [wAt_end h1, L.last.1, L.last.2, if_neg (by decide), if_neg this, if_pos (by decide)]
end
structure LiftP (n : Nat) (f f' : PF) : Prop where
  E : ∀ lvl, LiftF n (f.E lvl) (f'.E lvl)
  L : ∀ lvl x p d, p ≤ n → Lifts n (f.L lvl x p d) (f'.L lvl x (p + 1) (d + 1))
  S : LiftF n f.S f'.S
theorem Lift.loop {ws ws' : List Wd} (L : Lift ws ws') {f f' : PF} (h : LiftP ws.length f f') (lvl : Nat) (x : Ex) (p d : Nat) (hp : p ≤ ws.length) : Lifts ws.length (loopP ws f lvl x p d) (loopP ws' f' lvl x (p + 1) (d + 1)) := by
  unfold loopP
  rw [L.opAt lvl hp]
  cases ho : Go.Proofs.Ytijaldpmpjapiaa.opAt ws lvl p with
  | none => exact Lifts.ok hp
  | some op =>
    have hlt := opAt_lt ho
    dsimp only
    refine (h.E (lvl + 1) (p + 1) d hlt).bind fun r q _ hq => ?_
    split
    · exact Lifts.ok hq
    · exact h.L lvl _ q d hq
theorem lev_lift {n : Nat} {L L' : Nat → Ex → Nat → Nat → Rs Ex} {S S' : Nat → Nat → Rs Ex} (hL : ∀ lvl x p d, p ≤ n → Lifts n (L lvl x p d) (L' lvl x (p + 1) (d + 1))) (hS : LiftF n S S') : ∀ i, LiftF n (levN L S i) (levN L' S' i)
  | 0 => hS
  | i + 1 => fun p d hp => by
    rw [levN, levN]
    exact (lev_lift hL hS i p d hp).bind fun x q _ hq => hL _ _ _ _ hq
theorem Lift.fuel {ws ws' : List Wd} (L : Lift ws ws') : ∀ n n', n ≤ n' → LiftP ws.length (fuelP ws n) (fuelP ws' n')
  | 0, n', _ => ⟨fun lvl p d _ => Lifts.out, fun lvl x p d _ => Lifts.out, fun p d _ => Lifts.out⟩
  | n + 1, 0, h => by omega
  | n + 1, n' + 1, h => by
    have ih := L.fuel n n' (by omega)
    have hL := L.loop ih
    have hS := L.unary ih.S (ih.E 0)
    exact ⟨fun lvl => lev_lift hL hS _, hL, hS⟩
theorem lev_ok {ws : List Wd} {f : PF} {S : Nat → Nat → Rs Ex} {p d q : Nat} {x : Ex} (h : S p d = .ok x q) (hq : ws.length ≤ q) : ∀ i, levN (loopP ws f) S i p d = .ok x q
  | 0 => h
  | i + 1 => by
    rw [levN, lev_ok h hq i, Rs.bind_ok, loopP_end hq]
theorem lev_bad {L : Nat → Ex → Nat → Nat → Rs Ex} {S : Nat → Nat → Rs Ex} {p d q : Nat} {o : Bool} (h : S p d = .bad q o) : ∀ i, levN L S i p d = .bad q o
  | 0 => h
  | i + 1 => by
    rw [levN, lev_bad h i, Rs.bind_bad]
/-- A wrapped expression is the same, or too many are open. -/
theorem exprQ_wrap {ws ws' : List Wd} (L : Lift ws ws') (hl : ws'.length = ws.length + 2) (h0 : (wAt ws' 0).kind = 0 ∧ (wAt ws' 0).text = [40]) :
    (∀ x, exprQ ws = .ok x ws.length → exprQ ws' = .ok x ws'.length ∨ ∃ p, exprQ ws' = .bad p true) ∧ ∀ p, exprQ ws = .bad p true → ∃ p', exprQ ws' = .bad p' true := by
  have hlift := (L.fuel (ws.length + 1) (ws.length + 2) (by omega)).E 0 0 0 (Nat.zero_le _)
  have hE : exprQ ws' = levN (loopP ws' (fuelP ws' (ws.length + 2))) (unaryP ws' (fuelP ws' (ws.length + 2)).S ((fuelP ws' (ws.length + 2)).E 0)) 5 0 0 := by
    unfold exprQ
    rw [hl]
    rfl
  have hs : ∀ s, s ≠ [40] → Go.Proofs.Ytijaldpmpjapiaa.isS ws' 0 s = false := fun s hs => by
    unfold Go.Proofs.Ytijaldpmpjapiaa.isS
    rw [h0.2]
    simp [Ne.symm hs]
  have hs0 : Go.Proofs.Ytijaldpmpjapiaa.isS ws' 0 [40] = true := by unfold Go.Proofs.Ytijaldpmpjapiaa.isS; rw [h0.1, h0.2]; rfl
  have hs1 : Go.Proofs.Ytijaldpmpjapiaa.isS ws' (ws.length + 1) [41] = true := by unfold Go.Proofs.Ytijaldpmpjapiaa.isS; rw [L.last.1, L.last.2]; rfl
  have hu : unaryP ws' (fuelP ws' (ws.length + 2)).S ((fuelP ws' (ws.length + 2)).E 0) 0 0 = (((fuelP ws' (ws.length + 2)).E 0 1 1).bind fun x p => Rs.ok [x] p).bind fun xs p => (signQ ws' [41] p).bind fun _ p => .ok (xs.getD 0 (.mk 0 0 [] [])) p := by
    unfold unaryP atomP withinP signQ enterP
    rw [hs [33] (by decide), hs [45] (by decide), h0.1, hs0]
    simp only [partsP, Rs.bind_ok, Rs.bind_assoc]
    rfl
  rw [hE]
  constructor
  · intro x hx
    rcases (hlift.1 x ws.length hx).2 with h1 | ⟨p, h1⟩
    · left
      refine lev_ok ?_ (Nat.le_refl _) 5
      rw [hu, h1, Rs.bind_ok, Rs.bind_ok]
      unfold signQ
      rw [if_pos hs1, Rs.bind_ok, hl]
      rfl
    · right
      refine ⟨p, lev_bad ?_ 5⟩
      rw [hu, h1]
      rfl
  · intro p hp
    obtain ⟨p', h1⟩ := hlift.2 p hp
    refine ⟨p', lev_bad ?_ 5⟩
    rw [hu, h1]
    rfl
end Go.Proofs.Ytijaldpmpjapiaa

namespace Go.Proofs.Ytijaldpmpjapiaa
open Go.RowKit

theorem wrap_lift (ws : List Wd) (n : Nat) : Lift ws (openW :: (ws.map shW ++ [closeW n])) := by
  have hat : ∀ p, p < ws.length → wAt (openW :: (ws.map shW ++ [closeW n])) (p + 1) = shW (wAt ws p) := fun p h => by
    unfold wAt
    rw [List.getD_eq_getElem?_getD, List.getD_eq_getElem?_getD, List.getElem?_cons_succ, List.getElem?_append_left (by rw [List.length_map]; exact h), List.getElem?_map, List.getElem?_eq_getElem h]
    rfl
  have hl : wAt (openW :: (ws.map shW ++ [closeW n])) (ws.length + 1) = closeW n := by
    unfold wAt
    rw [List.getD_eq_getElem?_getD, List.getElem?_cons_succ, List.getElem?_append_right (by rw [List.length_map]; exact Nat.le_refl _), List.length_map, Nat.sub_self]
    rfl
  exact ⟨fun p h => by rw [hat p h]; rfl, fun p h => by rw [hat p h]; rfl, fun p h => by rw [hat p h]; rfl, by rw [hl]; exact ⟨rfl, rfl⟩⟩
theorem exprQ_nil : exprQ [] = .bad 0 false := by
  have h := unaryP_end (ws := []) (p := 0) (Nat.le_refl _) (fuelP [] 0).S ((fuelP [] 0).E 0) 0
  exact lev_bad (L := loopP [] (fuelP [] 0)) h 5
/-- What parseX says, by its parts. -/
theorem parseX_ok {l : List Nat} {x : Ex} : parseX l = (x, 0, 0) → l.length ≤ 4000 ∧ (lexAll l).2 = none ∧ exprQ (lexAll l).1 = .ok x (lexAll l).1.length ∧ rightB x = true := by
  intro h
  unfold parseX at h
  by_cases h1 : (parAt l (exprQ (lexAll l).1)).2 ≠ 0
  · rw [if_pos h1] at h
    injection h with _ h
    injection h with _ h
    exact absurd h h1
  · have hz := Decidable.of_not_not h1
    rw [if_neg h1] at h
    unfold parAt at hz
    by_cases h4 : 4000 < l.length
    · rw [if_pos h4] at hz; cases hz
    · rw [if_neg h4] at hz
      refine ⟨by omega, ?_⟩
      cases h2 : (lexAll l).2 with
      | some p => rw [h2] at hz; cases hz
      | none =>
        rw [h2] at hz
        refine ⟨rfl, ?_⟩
        cases hr : exprQ (lexAll l).1 with
        | out => exact absurd hr (exprQ_ne _)
        | bad p ov => rw [hr] at hz; cases ov <;> cases hz
        | ok t p =>
          rw [hr] at hz h
          dsimp only at hz h
          by_cases h3 : p = (lexAll l).1.length
          · by_cases hx : rightB t = true
            · rw [if_pos hx] at h
              injection h with h _
              subst h
              exact ⟨by rw [h3], hx⟩
            · rw [if_neg hx] at h
              injection h with _ h
              injection h with _ h
              cases h
          · rw [if_neg h3] at hz; cases hz
theorem parseX_deep {l : List Nat} : (parseX l).2.2 = 13 → l.length ≤ 4000 ∧ (lexAll l).2 = none ∧ ((∃ p, exprQ (lexAll l).1 = .bad p true) ∨ ∃ x, exprQ (lexAll l).1 = .ok x (lexAll l).1.length ∧ rightB x ≠ true) := by
  intro h
  unfold parseX at h
  by_cases h4 : 4000 < l.length
  · have : parAt l (exprQ (lexAll l).1) = (0, 4) := by unfold parAt; rw [if_pos h4]
    rw [this] at h
    cases h
  refine ⟨by omega, ?_⟩
  cases h2 : (lexAll l).2 with
  | some p =>
    have : parAt l (exprQ (lexAll l).1) = (p, 11) := by unfold parAt; rw [if_neg h4, h2]
    rw [this] at h
    cases h
  | none =>
    refine ⟨rfl, ?_⟩
    cases hr : exprQ (lexAll l).1 with
    | out => exact absurd hr (exprQ_ne _)
    | bad p ov =>
      cases ov with
      | true => exact .inl ⟨p, rfl⟩
      | false =>
        have : parAt l (exprQ (lexAll l).1) = (endPos l p, 11) := by unfold parAt; rw [if_neg h4, h2, hr]; rfl
        rw [this] at h
        cases h
    | ok x p =>
      by_cases h3 : p = (lexAll l).1.length
      · have : parAt l (exprQ (lexAll l).1) = (0, 0) := by unfold parAt; rw [if_neg h4, h2, hr]; exact if_pos h3
        rw [this, if_neg (by simp), hr] at h
        dsimp only at h
        by_cases hx : rightB x = true
        · rw [if_pos hx] at h; cases h
        · exact .inr ⟨x, by rw [h3], hx⟩
      · have : parAt l (exprQ (lexAll l).1) = (endPos l p, 11) := by unfold parAt; rw [if_neg h4, h2, hr]; exact if_neg h3
        rw [this] at h
        cases h
theorem parseX_of_ok {l : List Nat} {x : Ex} (h4 : l.length ≤ 4000) (h2 : (lexAll l).2 = none) (h : exprQ (lexAll l).1 = .ok x (lexAll l).1.length) : parseX l = if rightB x = true then (x, 0, 0) else (zeroEx, 0, 13) := by
  have : parAt l (exprQ (lexAll l).1) = (0, 0) := by unfold parAt; rw [if_neg (by omega), h2, h]; exact if_pos rfl
  unfold parseX
  rw [this, if_neg (by simp), h]
theorem parseX_of_bad {l : List Nat} {p : Nat} (h4 : l.length ≤ 4000) (h2 : (lexAll l).2 = none) (h : exprQ (lexAll l).1 = .bad p true) : (parseX l).2.2 = 13 := by
  have : parAt l (exprQ (lexAll l).1) = (0, 13) := by unfold parAt; rw [if_neg (by omega), h2, h]; rfl
  unfold parseX
  rw [this, if_pos (by simp)]
/-- The same, or too many are open. -/
def Loose (x : Ex) (l : List Nat) : Prop := parseX l = (x, 0, 0) ∨ (parseX l).2.2 = 13
theorem Loose.wrap {x : Ex} {l : List Nat} (h : Loose x l) (h4 : l.length ≤ 3900) : Loose x (wrapL l) := by
  have hlen := wrap_len l
  have key : ∀ (hn : (lexAll l).2 = none), (lexAll l).1 ≠ [] → (lexAll (wrapL l)).2 = none ∧ (∀ y, exprQ (lexAll l).1 = .ok y (lexAll l).1.length → exprQ (lexAll (wrapL l)).1 = .ok y (lexAll (wrapL l)).1.length ∨ ∃ p, exprQ (lexAll (wrapL l)).1 = .bad p true) ∧ ∀ p, exprQ (lexAll l).1 = .bad p true → ∃ p', exprQ (lexAll (wrapL l)).1 = .bad p' true := fun hn hne => by
    rw [lexAll_wrap hn hne]
    have := exprQ_wrap (wrap_lift (lexAll l).1 (l.length + 5)) (by simp) ⟨rfl, rfl⟩
    exact ⟨rfl, this⟩
  have hne : (lexAll l).1 = [] → exprQ (lexAll l).1 = .bad 0 false := fun e => by rw [e]; exact exprQ_nil
  rcases h with h | h
  · obtain ⟨-, h2, h3, hr⟩ := parseX_ok h
    obtain ⟨k1, k2, -⟩ := key h2 (fun e => by rw [hne e] at h3; cases h3)
    rcases k2 x h3 with h5 | ⟨p, h5⟩
    · left
      rw [parseX_of_ok (by omega) k1 h5, if_pos hr]
    · exact .inr (parseX_of_bad (by omega) k1 h5)
  · obtain ⟨-, h2, ⟨p, h3⟩ | ⟨y, h3, hr⟩⟩ := parseX_deep h
    · obtain ⟨k1, -, k3⟩ := key h2 (fun e => by rw [hne e] at h3; cases h3)
      obtain ⟨p', h5⟩ := k3 p h3
      exact .inr (parseX_of_bad (by omega) k1 h5)
    · obtain ⟨k1, k2, -⟩ := key h2 (fun e => by rw [hne e] at h3; cases h3)
      rcases k2 y h3 with h5 | ⟨p, h5⟩
      · right
        rw [parseX_of_ok (by omega) k1 h5, if_neg hr]
      · exact .inr (parseX_of_bad (by omega) k1 h5)
/-- So many times. -/
def wrapN : Nat → List Nat → List Nat
  | 0, l => l
  | i + 1, l => wrapL (wrapN i l)
theorem wrapN_len (l : List Nat) : ∀ i, (wrapN i l).length = l.length + 16 * i
  | 0 => by simp [wrapN]
  | i + 1 => by rw [wrapN, wrap_len, wrapN_len l i]; omega
theorem wrapN_lt {l : List Nat} (h : ∀ x ∈ l, x < 256) : ∀ i, ∀ x ∈ wrapN i l, x < 256
  | 0 => h
  | i + 1 => fun x hx => by
    have ih := wrapN_lt h i
    unfold wrapN wrapL at hx
    simp only [List.mem_cons, List.mem_append] at hx
    rcases hx with rfl | rfl | rfl | hx | rfl | rfl | hx
    · decide
    · decide
    · decide
    · exact ih x hx
    · decide
    · decide
    · revert x; decide
theorem Loose.wrapN {x : Ex} {l : List Nat} (h : Loose x l) (h4 : l.length ≤ 1000) : ∀ i, i ≤ 5 → Loose x (wrapN i l)
  | 0, _ => h
  | i + 1, hi => (h.wrapN h4 i (by omega)).wrap (by rw [wrapN_len]; omega)
end Go.Proofs.Ytijaldpmpjapiaa

