/-
  LevelSettings: of every setting the statement returns true: whether it is sound, and the nearest one that is. No condition.
-/
import Derived.Test.YtpbkbkgankplbaaLawA
import Derived.Deep.DeepCutAuto
import Derived.ProofKit
import Derived.OpenShut
import Derived.Lib.SmallJoins
namespace Go.Proofs.Ytpbkbkgankplbaa
open Go.ChangeShapes Go.WideShapes Go.ChangeAt Go.RowKit

theorem fit_fit (c : Cfg) : c.fit.fit = c.fit := by
  have h1 := clamp_bd c.zero 1 50 (by decide)
  have h2 := clamp_bd c.base 1 1048576 (by decide)
  have h3 := clamp_bd c.times 2 20 (by decide)
  have h4 := clamp_bd c.table 64 262144 (by decide)
  have e : ∀ n lo hi : Int, lo ≤ n → n ≤ hi → clamp n lo hi = n := fun n lo hi a b => by unfold clamp; rw [if_neg (by omega), if_neg (by omega)]
  show Cfg.mk (clamp (clamp c.zero 1 50) 1 50) (clamp (clamp c.base 1 1048576) 1 1048576) (clamp (clamp c.times 2 20) 2 20) (clamp (clamp c.table 64 262144) 64 262144) = Cfg.mk (clamp c.zero 1 50) (clamp c.base 1 1048576) (clamp c.times 2 20) (clamp c.table 64 262144)
  rw [e _ _ _ h1.1 h1.2, e _ _ _ h2.1 h2.2, e _ _ _ h3.1 h3.2, e _ _ _ h4.1 h4.2]
theorem same_self (c : Cfg) : c.same c = true := by simp [Cfg.same]

/-- What is held while the statement's last line is worked out. -/
structure HS (w W : World) (c d : Cfg) : Prop where
  box : W.heap[w.heap.size]? = some (.cells #[.int .i64 c.zero, .int .i64 c.base, .int .i64 c.times, .int .i64 c.table] 39 (0, 0))
  want : W.heap[w.heap.size + 1]? = some (.cells #[.int .i64 d.zero, .int .i64 d.base, .int .i64 d.times, .int .i64 d.table] 39 (0, 0))
  below : Below w.heap.size w W
theorem HS.step {w W W' : World} {c d : Cfg} (h : HS w W c d) (hb : Below W.heap.size W W') : HS w W' c d :=
  have h1 : w.heap.size + 1 < W.heap.size := (Array.getElem?_eq_some_iff.1 h.want).1
  ⟨(hb.block _ (by omega)).trans h.box, (hb.block _ h1).trans h.want, h.below.trans (hb.mono (by omega))⟩

theorem HS.cells {w W : World} {c d : Cfg} (h : HS w W c d) :
    (W.cell? ⟨w.heap.size, 0, none⟩ = some (.int .i64 c.zero) ∧ W.cell? ⟨w.heap.size, 1, none⟩ = some (.int .i64 c.base) ∧ W.cell? ⟨w.heap.size, 2, none⟩ = some (.int .i64 c.times) ∧ W.cell? ⟨w.heap.size, 3, none⟩ = some (.int .i64 c.table) ∧
      W.cell? ⟨w.heap.size + 1, 0, none⟩ = some (.int .i64 d.zero) ∧ W.cell? ⟨w.heap.size + 1, 1, none⟩ = some (.int .i64 d.base) ∧ W.cell? ⟨w.heap.size + 1, 2, none⟩ = some (.int .i64 d.times) ∧ W.cell? ⟨w.heap.size + 1, 3, none⟩ = some (.int .i64 d.table)) ∧ HS w W c d := by
  obtain ⟨a0, a1, a2, a3⟩ := row4 h.box
  obtain ⟨b0, b1, b2, b3⟩ := row4 h.want
  exact ⟨⟨a0, a1, a2, a3, b0, b1, b2, b3⟩, h⟩
theorem HS.drew {w W : World} {c d : Cfg} (h : HS w W c d) : HS w W.drew c d := ⟨h.box, h.want, h.below.drewN 1⟩
theorem hs_keep {w W W' : World} {c d : Cfg} {p : Prop} (h : p ∧ HS w W c d) (hb : Below W.heap.size W W') :
    (W'.cell? ⟨w.heap.size, 0, none⟩ = some (.int .i64 c.zero) ∧ W'.cell? ⟨w.heap.size, 1, none⟩ = some (.int .i64 c.base) ∧ W'.cell? ⟨w.heap.size, 2, none⟩ = some (.int .i64 c.times) ∧ W'.cell? ⟨w.heap.size, 3, none⟩ = some (.int .i64 c.table) ∧
      W'.cell? ⟨w.heap.size + 1, 0, none⟩ = some (.int .i64 d.zero) ∧ W'.cell? ⟨w.heap.size + 1, 1, none⟩ = some (.int .i64 d.base) ∧ W'.cell? ⟨w.heap.size + 1, 2, none⟩ = some (.int .i64 d.times) ∧ W'.cell? ⟨w.heap.size + 1, 3, none⟩ = some (.int .i64 d.table)) ∧ HS w W' c d :=
  (h.2.step hb).cells
theorem sound_x (c : Cfg) (b : Bool) (hb : c.fit.same c = b) (w : World) : Calls Try.prog 19 #[.agg #[.int .i64 c.zero, .int .i64 c.base, .int .i64 c.times, .int .i64 c.table]] w fun e w' => e = .returned (.bool b) ∧ Below w.heap.size w w' := by
  rw [← hb]
  exact sound_any c w
theorem fitCfg_d (c d : Cfg) (hd : c.fit = d) (w : World) : Calls Try.prog 18 #[.agg #[.int .i64 c.zero, .int .i64 c.base, .int .i64 c.times, .int .i64 c.table]] w fun e w' =>
    e = .returned (.agg #[.int .i64 d.zero, .int .i64 d.base, .int .i64 d.times, .int .i64 d.table]) ∧ Below w.heap.size w w' := by rw [← hd]; exact fitCfg_any c w

set_option maxHeartbeats 1000000 in
set_option maxRecDepth 100000 in
theorem walk_settings (c : Cfg) (w : World) :
    Calls Try.prog 5 #[.agg #[.int .i64 c.zero, .int .i64 c.base, .int .i64 c.times, .int .i64 c.table]] w fun e w' => e = .returned (.bool true) ∧ Below w.heap.size w w' := by
  go_enter Try.func5, Try.ntmps5
  go_wp2_with fail
  obtain ⟨W, hW⟩ : ∃ W, w.alloc (.cells #[.int .i64 c.zero, .int .i64 c.base, .int .i64 c.times, .int .i64 c.table] 39) = W := ⟨_, rfl⟩
  have h0 := heap_alloc_new w (.cells #[.int .i64 c.zero, .int .i64 c.base, .int .i64 c.times, .int .i64 c.table] 39)
  have hb : Below w.heap.size w W := by rw [← hW]; exact (Below.refl _ _).alloc (Nat.le_refl _) _
  have hz : W.heap.size = w.heap.size + 1 := by rw [← hW]; simp
  rw [hW] at h0 ⊢
  obtain ⟨a0, a1, a2, a3⟩ := row4 h0
  have HS0 : ∀ n, HS w ((W.alloc (.cells #[.int .i64 (clamp c.zero 1 50), .int .i64 (clamp c.base 1 1048576), .int .i64 (clamp c.times 2 20), .int .i64 (clamp c.table 64 262144)] 39)).drewN n) c c.fit := fun n =>
    ⟨(Below.heap_alloc _ _ _ (by omega)).trans h0, by rw [← hz]; exact heap_alloc_new W _, (hb.alloc (by omega) _).drewN n⟩
  have H0 := Lib.hid HS0
  have Hz := Lib.hid hz
  clear hW h0 hz hb HS0
  go_cut [3] (fun u wx => u = .pointer (some ⟨w.heap.size + 1, 0, none⟩) ∧ HS w wx c c.fit)
  case first =>
    go_region_held3 (fun w' => w'.cell? ⟨w.heap.size, 0, none⟩ = some (.int .i64 c.zero) ∧ w'.cell? ⟨w.heap.size, 1, none⟩ = some (.int .i64 c.base) ∧ w'.cell? ⟨w.heap.size, 2, none⟩ = some (.int .i64 c.times) ∧ w'.cell? ⟨w.heap.size, 3, none⟩ = some (.int .i64 c.table)) (go_keep)
      (first | (go_at_call 15; refine (fitL_any _ _ _ _).mono ?_; rintro e w' ⟨rfl, rfl⟩))
    all_goals (go_wp2_with fail; go_meet; exact ⟨by rw [← Hz.out], H0.out 1⟩)
  case rest =>
    obtain ⟨rfl, hs⟩ := hcut
    clear a0 a1 a2 a3 H0 Hz
    obtain ⟨d, hd⟩ : ∃ d, c.fit = d := ⟨_, rfl⟩
    obtain ⟨b, hb⟩ : ∃ b, d.same c = b := ⟨_, rfl⟩
    have Hd := Lib.hid hd
    have HcB := Lib.hid (show c.fit.same c = b by rw [hd, hb])
    have HdB := Lib.hid (show d.fit.same d = true by rw [← hd, fit_fit, same_self])
    have q1 : ∀ W, _ := fun W => run_eql_cfg d d W
    have q2 : ∀ W, _ := fun W => run_eql_cfg d c W
    rw [hb] at q2
    rw [same_self] at q1
    rw [hd] at hs
    clear hd hb
    go_wp2_with fail
    go_region_held3 (fun w' => (w'.cell? ⟨w.heap.size, 0, none⟩ = some (.int .i64 c.zero) ∧ w'.cell? ⟨w.heap.size, 1, none⟩ = some (.int .i64 c.base) ∧ w'.cell? ⟨w.heap.size, 2, none⟩ = some (.int .i64 c.times) ∧ w'.cell? ⟨w.heap.size, 3, none⟩ = some (.int .i64 c.table) ∧
      w'.cell? ⟨w.heap.size + 1, 0, none⟩ = some (.int .i64 d.zero) ∧ w'.cell? ⟨w.heap.size + 1, 1, none⟩ = some (.int .i64 d.base) ∧ w'.cell? ⟨w.heap.size + 1, 2, none⟩ = some (.int .i64 d.times) ∧ w'.cell? ⟨w.heap.size + 1, 3, none⟩ = some (.int .i64 d.table)) ∧ HS w w' c d) (first | exact hs.drew.cells | exact hs_keep (by assumption) (by assumption))
      (first | (go_at_call 18; refine (fitCfg_d c d Hd.out _).mono ?_; rintro e w' ⟨rfl, hb⟩) | (go_at_call 19; (with_reducible refine (sound_x c b HcB.out _).mono ?_); rintro e w' ⟨rfl, hb⟩) | (go_at_call 19; (with_reducible refine (sound_x d true HdB.out _).mono ?_); rintro e w' ⟨rfl, hb⟩) | (go_at_call 9; refine (awake_any _).mono ?_; rintro e w' ⟨rfl, hb⟩))
    rename_i hS
    go_wp2_with fail
    go_ret
    exact ⟨rfl, hS.2.below⟩

set_option maxRecDepth 100000 in
theorem open_cfg {H : Type} {enc : TypeId × Value → H} {W : World} {base : Nat} {v : Value} {d : DataW H} {p : List MemPlace} (hv : Value.okWide Try.prog W .any base 39 v)
    (h : DataW.Trod enc Try.prog W 0 (fun _ => true) true 39 v d p) : ∃ c : Cfg, v = .agg #[.int .i64 c.zero, .int .i64 c.base, .int .i64 c.times, .int .i64 c.table] := by
  obtain ⟨c0, c1, c2, c3, y0, y1, y2, y3, m, rfl, -, -, hy0, hy1, hy2, hy3⟩ := Joins.open_agg4 Try.underlying39 (by kernel_rfl) (by kernel_rfl) hv h
  obtain ⟨x0, e0, -, -⟩ := DataW.trod_int Try.underlying3 hy0
  obtain ⟨x1, e1, -, -⟩ := DataW.trod_int Try.underlying3 hy1
  obtain ⟨x2, e2, -, -⟩ := DataW.trod_int Try.underlying3 hy2
  obtain ⟨x3, e3, -, -⟩ := DataW.trod_int Try.underlying3 hy3
  simp at e0 e1 e2 e3
  subst e0 e1 e2 e3
  exact ⟨⟨x0, x1, x2, x3⟩, rfl⟩

namespace LevelSettings
theorem own : ownKnob Try.prog.godebug = none := by kernel_rfl
theorem laidOut : laidOutB Try.prog = true := by kernel_rfl
set_option maxRecDepth 100000 in
theorem lifted (os : Os) (started : os.Started) (H : Type) (enc : TypeId × Value → H) :
    ReturnsInHanded {} Try.checked os 5 .any (Rows.levelSettingsSpec.pre6 enc Try.prog Try.f5 Rows.levelSettingsRow.domain false) (Rows.levelSettingsSpec.post enc Try.prog Try.f5 false true false false) := by
  refine returnsInHanded_of_change (C := Try.checked) own started (by kernel_rfl) Try.func5
    (ChangeSpec.witness6 (enc := enc) (C := Try.checked) false ⟨#[], #[.agg #[.int .i64 0, .int .i64 0, .int .i64 0, .int .i64 0]], []⟩ 8 (by kernel_rfl) (by kernel_rfl) (by kernel_rfl) (by kernel_rfl)) ?_
  intro W base args ds gs before hval0 hW hcnd _
  have hval : ∀ (j : Nat) t v, Try.f5.params[j]? = some t → args[j]? = some v → Value.okWide Try.prog W .any base t v := hval0
  have hW' := hW
  obtain ⟨p, q, hA0, hV, rfl, hfz, hnd⟩ := hW
  have hA : DataW.TrodAll enc Try.prog W 0 (fun _ => true) true Try.f5.params.toList args.toList ds p := hA0
  rw [Try.params5] at hA hval
  obtain ⟨v0, vs0, d0, ds0, p0, q0, hargs, rfl, rfl, h0, r0⟩ := trodAll_cons hA
  obtain ⟨rfl, rfl, rfl⟩ := trodAll_nil r0
  obtain rfl : args = #[v0] := by cases args; simp_all
  obtain ⟨rfl, rfl⟩ := trodVars_none hV
  have k0 := h0
  have lt0 : ∀ x ∈ p0, x.block < W.heap.size := by obtain ⟨m, hm⟩ := k0; exact DataW.trod_lt m _ _ _ hm
  obtain ⟨c, rfl⟩ := open_cfg (hval 0 _ v0 rfl rfl) h0
  clear hA0 hval0
  refine (walk_settings c W).mono fun e W' ⟨he, bel⟩ => ?_
  subst he
  exact ⟨_, rfl, _, _, _, [], _, [], hW', trodAll_mk1 (shut_bool Try.underlying4 _), (trodAll_cons_mk (Below.trod laidOut (by kernel_rfl) (of_decide_eq_true (by kernel_rfl)) k0 bel lt0) trodAll_mk0), rfl, bel.frame _, fun h => by cases h⟩

theorem over : Rows.levelSettingsRow.holds Try.pinned (OpenSpec.ofChange Rows.levelSettingsSpec) :=
  OpenClaim.holds_of_wide 5 Try.f5 rfl rfl rfl rfl rfl rfl rfl ⟨rfl, rfl, rfl, rfl, rfl⟩ rfl rfl rfl rfl rfl (by kernel_rfl) Try.func5 (by kernel_rfl)
    (of_decide_eq_true (by kernel_rfl)) (by unfold Func.isWrapper; first | (rw [if_pos (by decide +kernel)]; kernel_rfl) | (rw [if_neg (by decide +kernel)]; exact ⟨rfl, rfl⟩))
    (fun os started H enc _ => lifted os started H enc)

theorem proved : Rows.LevelSettingsSaid := over

#print axioms proved
end LevelSettings
end Go.Proofs.Ytpbkbkgankplbaa
