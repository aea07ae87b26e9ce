/-
  ParseExprs: any text's expression; or why it is none's, and where: the statement returns true. No condition.
-/
import Derived.Test.YtaamkfajnpobfaaGreatV5
namespace Go.Proofs.YtaamkfajnpobfaaGreat
open Go.ChangeShapes Go.WideShapes Go.ChangeAt Go.RowKit

theorem walk_pexprs (l : List Nat) (w : World) (hl : ∀ x ∈ l, x < 256) (hlen : l.length ≤ 9223372036854775807) :
  Calls Tryz.prog 4 #[.string (strOf l)] w fun e w' => e = .returned (.bool true) ∧ Below w.heap.size w w' := by
 have bel := Below.refl w.heap.size w
 have hps := parseExpr_any l w hl hlen
 have hrf := fun W h4 => refParseX_any l W hl h4
 have h4k : 4000 < l.length → parseX l = (zeroEx, 0, 4) := fun h => by
  unfold parseX parAt
  rw [if_pos h]
  rfl
 obtain ⟨x, p, z, hP⟩ : ∃ x p z, parseX l = (x, p, z) := ⟨_, _, _, rfl⟩
 rw [hP] at hps h4k
 simp only [hP] at hrf
 refine Zs 54 Tryz.func4 ?_
 refine Zsr ?_
 refine Za ?_
 refine Zk2 0 2 (Ztq ?_)
 refine Zm ?_
 refine Zc (Ze Tryz.func11) (hps) ?_
 rintro e w5 ⟨hb5, v, S, rfl, hrep, hS⟩
 obtain ⟨A, c, hvX⟩ := hrep.form
 subst hvX
 refine ⟨_, rfl, ?_⟩
 replace bel := bel.step hb5
 have rs : ReS w.heap.size w5.heap.size S x (.agg #[.int .i64 x.op, .int .i64 x.n, .string (strOf x.name), .slice A x.args.length c]) w5 := ⟨hrep, hS, Nat.le_refl _⟩
 refine Zm ?_
 refine Zv (Runs.extract rfl rfl rfl) ?_
 refine Zv (Runs.extract rfl rfl rfl) ?_
 refine Zv (Runs.extract rfl rfl rfl) ?_
 refine Zl zero_api_Expr ?_
 intro g3 w1 n3
 have q3 := n3.ge
 have e3 := Nat.le_trans bel.size n3.ge
 replace bel := bel.step n3.below
 replace rs := rs.step n3.below
 have k3 := n3.blk
 refine Zo 4 k3 ?_
 intro w2 pw2
 replace bel := bel.put k3 pw2 e3
 replace rs := rs.put k3 pw2 e3
 replace k3 := pw2.blk
 refine Za ?_
 refine Za ?_
 refine Zk5 0 2 3 4 5 (Zts (Zsr ?_))
 refine Zm ?_
 refine Zv (Runs.lenL rfl rfl Tryz.underlying9) ?_
 refine Zv (Runs.gtr rfl rfl rfl) ?_
 refine Zk6 0 2 3 4 5 17 (Zt ?_)
 have k3 : Blk _ g3 _ #[.int .i64 x.op, .int .i64 x.n, .string (strOf x.name), .slice A x.args.length c] := k3
 refine Cd.condD rfl (fun hc => ?_) (fun hc => ?_)
 ·obtain ⟨rfl, rfl, rfl⟩ : x = zeroEx ∧ p = 0 ∧ z = 4 := by
   have := h4k (by omega)
   injection this with h1 h2
   injection h2 with h2 h3
   exact ⟨h1, h2, h3⟩
  have hloc := Below.refl w2.heap.size w2
  have hrb : Rep w2 w2.heap.size zeroEx (.agg #[.int .i64 zeroEx.op, .int .i64 zeroEx.n, .string (strOf zeroEx.name), .slice A zeroEx.args.length c]) := rs.rep.mono (fun b hb => Nat.lt_of_lt_of_le (rs.bd b hb).2 rs.hi_le) (fun _ _ => rfl)
  have hsm := fun W (hb : Below w2.heap.size w2 W) => sameExpr_any (zeroEx).nodes zeroEx w2.heap.size _ _ W (Nat.le_refl _) (hrb.below hb) ((RepE.zero W (· < w2.heap.size))) hb.size
  refine Zsr ?_
  refine Zm ?_
  refine Zv (Runs.eqlI rfl rfl rfl) ?_
  refine Zm ?_
  refine SeqC.start ?_
  refine Zco (fun hcx => Runs.move rfl rfl) ?_
  refine SeqC.next rfl rfl rfl rfl rfl rfl rfl (fun hcx => Runs.eqlI rfl rfl rfl) ?_
  refine SeqC.and rfl rfl rfl rfl rfl rfl rfl ?_
  refine Zm ?_
  refine SeqC.start ?_
  refine Zco (fun hcx => Runs.loadW rfl rfl Tryz.underlying35 rfl k3 (m := 4) (by kernel_rfl) rfl) ?_
  refine SeqC.next rfl rfl rfl rfl rfl rfl rfl (fun hcx => Runs.build rfl rfl (run_build_E0 _)) ?_
  refine SeqC.nextC rfl rfl rfl rfl rfl rfl rfl (fun hcx => Ze Tryz.func12) (fun hcx => hsm _ hloc) ?_
  intro w3 hw3
  replace bel := bel.step hw3
  replace rs := rs.step hw3
  replace k3 := k3.step hw3
  replace hloc := hloc.step hw3
  refine SeqC.and rfl rfl rfl rfl rfl rfl rfl ?_
  refine Zm ?_
  refine SeqC.start ?_
  refine SeqC.openC rfl rfl rfl rfl rfl rfl rfl (fun hcx => Ze Tryz.func9) (fun hcx => awake19_any _) ?_
  intro w4 hw4
  replace bel := bel.step hw4
  replace rs := rs.step hw4
  replace k3 := k3.step hw4
  replace hloc := hloc.step hw4
  refine SeqC.and rfl rfl rfl rfl rfl rfl rfl ?_
  refine Za ?_
  refine Zk6 0 2 3 4 5 17 (Zt (Cd.ret (Post.then_ret ?_)))
  refine Post.end1 rfl rfl (.inl rfl) ?_
  exact ⟨ret1 (bool_eq (by simp)), bel⟩
 ·skip
  refine Cd.skip (Ztq ?_)
  refine Zm ?_
  refine Zc (Ze Tryz.func13) (hrf _ (by omega)) ?_
  rintro e w6 ⟨hb6, v6, S6, rfl, hrep6, hS6⟩
  obtain ⟨B1, d1, hvX⟩ := hrep6.form
  subst hvX
  refine ⟨_, rfl, ?_⟩
  replace bel := bel.step hb6
  replace rs := rs.step hb6
  replace k3 := k3.step hb6
  have rs6 : ReS _ w6.heap.size S6 x (.agg #[.int .i64 x.op, .int .i64 x.n, .string (strOf x.name), .slice B1 x.args.length d1]) w6 := ⟨hrep6, hS6, Nat.le_refl _⟩
  refine Zm ?_
  refine Zv (Runs.extract rfl rfl rfl) ?_
  refine Zv (Runs.extract rfl rfl rfl) ?_
  refine Zv (Runs.extract rfl rfl rfl) ?_
  refine Zl zero_api_Expr ?_
  intro g6 w3 n6
  have q6 := n6.ge
  have e6 := Nat.le_trans bel.size n6.ge
  have l6 := Nat.lt_of_lt_of_le k3.lt n6.ge
  replace bel := bel.step n6.below
  replace rs := rs.step n6.below
  replace k3 := k3.step n6.below
  replace rs6 := rs6.step n6.below
  have k6 := n6.blk
  refine Zo 4 k6 ?_
  intro w4 pw4
  replace bel := bel.put k6 pw4 e6
  replace rs := rs.put k6 pw4 e6
  replace k3 := k3.put pw4 (by omega)
  replace rs6 := rs6.put k6 pw4 e6
  replace k6 := pw4.blk
  refine Za ?_
  refine Za ?_
  refine Zk9 0 2 3 4 5 6 7 8 17 (Ztq ?_)
  have k6 : Blk w4 g6 _ #[.int .i64 x.op, .int .i64 x.n, .string (strOf x.name), .slice B1 x.args.length d1] := k6
  have hrb : Rep w4 w4.heap.size x (.agg #[.int .i64 x.op, .int .i64 x.n, .string (strOf x.name), .slice A x.args.length c]) := rs.rep.mono (fun b hb => Nat.lt_of_lt_of_le (rs.bd b hb).2 rs.hi_le) (fun _ _ => rfl)
  have hrb6 : Rep w4 w4.heap.size x (.agg #[.int .i64 x.op, .int .i64 x.n, .string (strOf x.name), .slice B1 x.args.length d1]) := rs6.rep.mono (fun b hb => Nat.lt_of_lt_of_le (rs6.bd b hb).2 rs6.hi_le) (fun _ _ => rfl)
  have hsm := sameExpr_any x.nodes x w4.heap.size _ _ w4 (Nat.le_refl _) hrb hrb6 (Nat.le_refl _)
  refine Zv (Runs.loadW rfl rfl Tryz.underlying35 rfl k3 (m := 4) (by kernel_rfl) rfl) ?_
  refine Zv (Runs.loadW rfl rfl Tryz.underlying35 rfl k6 (m := 4) (by kernel_rfl) rfl) ?_
  refine Zc (Ze Tryz.func12) (hsm) ?_
  rintro e w7 ⟨rfl, hb7⟩
  refine ⟨_, rfl, ?_⟩
  replace bel := bel.step hb7
  replace k3 := k3.step hb7
  replace k6 := k6.step hb7
  refine Zm ?_
  refine SeqC.start ?_
  refine Zco (fun hcx => Runs.move rfl rfl) ?_
  refine SeqC.next rfl rfl rfl rfl rfl rfl rfl (fun hcx => Runs.move rfl rfl) ?_
  refine SeqC.next rfl rfl rfl rfl rfl rfl rfl (fun hcx => Runs.eqlI rfl rfl rfl) ?_
  refine SeqC.and rfl rfl rfl rfl rfl rfl rfl ?_
  refine Zm ?_
  refine SeqC.start ?_
  refine Zco (fun hcx => Runs.move rfl rfl) ?_
  refine SeqC.next rfl rfl rfl rfl rfl rfl rfl (fun hcx => Runs.move rfl rfl) ?_
  refine SeqC.next rfl rfl rfl rfl rfl rfl rfl (fun hcx => Runs.eqlI rfl rfl rfl) ?_
  refine SeqC.and rfl rfl rfl rfl rfl rfl rfl ?_
  refine Zm ?_
  refine SeqC.start ?_
  refine SeqC.openC rfl rfl rfl rfl rfl rfl rfl (fun hcx => Ze Tryz.func9) (fun hcx => awake19_any _) ?_
  intro w5 hw5
  replace bel := bel.step hw5
  replace k3 := k3.step hw5
  replace k6 := k6.step hw5
  refine SeqC.and rfl rfl rfl rfl rfl rfl rfl ?_
  refine Za ?_
  refine Zk9 0 2 3 4 5 6 7 8 17 (Zt (Cd.ret ?_))
  refine Post.end1 rfl rfl (.inl rfl) ?_
  exact ⟨ret1 (bool_eq (by simp)), bel⟩

namespace ParseExprs
theorem own : ownKnob Tryz.prog.godebug = none := by kernel_rfl
theorem laidOut : laidOutB Tryz.prog = true := by kernel_rfl
set_option maxRecDepth 100000 in
theorem lifted (os : Os) (started : os.Started) (H : Type) (enc : TypeId × Value → H) :
  ReturnsInHanded {} Tryz.checked os 4 .any (Rows.parseExprsSpec.pre6 enc Tryz.prog Tryz.f4 Rows.parseExprsRow.domain false) (Rows.parseExprsSpec.post enc Tryz.prog Tryz.f4 false true false false) := by
 refine returnsInHanded_of_change (C := Tryz.checked) own started (by kernel_rfl) Tryz.func4
  (ChangeSpec.witness6 (enc := enc) (C := Tryz.checked) false ⟨#[], #[.string { data := #[] }], []⟩ 8 (by kernel_rfl) (by kernel_rfl) (by kernel_rfl) (by kernel_rfl)) ?_
 intro W base args ds gs before hval0 hW hcnd _
 have hval : ∀ (j : Nat) t v, Tryz.f4.params[j]? = some t → args[j]? = some v → Value.okWide Tryz.prog W .any base t v := hval0
 have hW' := hW
 obtain ⟨p, q, hA0, hV, rfl, hfz, hnd⟩ := hW
 have hA : DataW.TrodAll enc Tryz.prog W 0 (fun _ => true) true Tryz.f4.params.toList args.toList ds p := hA0
 rw [Tryz.params4] at hA hval
 obtain ⟨v0, vs0, d0, ds0, p0, q0, hargs, rfl, rfl, h0, r0⟩ := trodAll_cons hA
 obtain ⟨rfl, rfl, rfl⟩ := trodAll_nil r0
 obtain rfl : args = #[v0] := by cases args; simp_all
 obtain ⟨rfl, rfl⟩ := trodVars_none hV
 have k0 := h0
 have lt0 : ∀ x ∈ p0, x.block < W.heap.size := by obtain ⟨m, hm⟩ := k0; exact DataW.trod_lt m _ _ _ hm
 obtain ⟨l, rfl, hl, hlen⟩ := open_str Tryz.underlying9 (hval 0 _ v0 rfl rfl)
 clear hA0 hval0
 refine (walk_pexprs l W hl hlen).mono fun e W' ⟨he, bel⟩ => ?_
 subst he
 exact ⟨_, rfl, _, _, _, [], _, [], hW', trodAll_mk1 (shut_bool Tryz.underlying4 _), (trodAll_cons_mk (Below.trod laidOut (by kernel_rfl) (of_decide_eq_true (by kernel_rfl)) k0 bel lt0) trodAll_mk0), rfl, bel.frame _, fun h => by cases h⟩

theorem over : Rows.parseExprsRow.holds Tryz.pinned (OpenSpec.ofChange Rows.parseExprsSpec) :=
 OpenClaim.holds_of_wide 4 Tryz.f4 rfl rfl rfl rfl rfl rfl rfl ⟨rfl, rfl, rfl, rfl, rfl⟩ rfl rfl rfl rfl rfl (by kernel_rfl) Tryz.func4 (by kernel_rfl)
  (of_decide_eq_true (by kernel_rfl)) (by unfold Func.isWrapper; first | (rw [if_pos (by decide +kernel)]; kernel_rfl) | (rw [if_neg (by decide +kernel)]; exact ⟨rfl, rfl⟩))
  (fun os started H enc _ => lifted os started H enc)

theorem proved : Rows.ParseExprsSaid := over

end ParseExprs
end Go.Proofs.YtaamkfajnpobfaaGreat
