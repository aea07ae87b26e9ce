/-
  LevelTakes: of any version, any level's task: the statement returns true. No condition.
-/
import Derived.Test.YtpbkbkgankplbaaTakes
import Derived.Test.YtpbkbkgankplbaaGreat
import Derived.Test.YtpbkbkgankplbaaOpen
namespace Go.Proofs.Ytpbkbkgankplbaa
open Go.ChangeShapes Go.WideShapes Go.ChangeAt Go.RowKit

set_option maxHeartbeats 1600000 in
set_option maxRecDepth 100000 in
theorem walk_takes (A : Option Addr) (len cap : Nat) (fs : List File) (lg nx sq n : Int) (w : World) (hr : Reads w w.heap.size 6 A len (cellsOf fs)) :
    Calls Try.prog 3 #[.agg #[.int .i64 lg, .int .i64 nx, .int .i64 sq, .slice A len cap], .int .i64 n] w fun e w' => e = .returned (.bool true) ∧ Below w.heap.size w w' := by
  have Hr := Lib.hid hr
  clear hr
  obtain ⟨i1, hi1, hy0, hy1, _⟩ := info_parts infoTask
  go_enter Try.func3, Try.ntmps3
  go_wp2_with fail
  refine (great_any w.heap.size A len cap fs lg nx sq _ (Hr.out.alloc (Nat.le_refl _) _) (by simp)).mono ?_
  rintro e w1 ⟨b, rfl, hb, hb1⟩
  have hbx := hb1.mono (show w.heap.size + 1 ≤ _ by simp)
  have hg1 := (hbx.block w.heap.size (by omega)).trans (heap_alloc_new w _)
  have hbw := below_of_alloc (Below.refl w.heap.size w) (Nat.le_refl _) hb1
  have hz1 : w.heap.size + 1 ≤ w1.heap.size := by have := hb1.size; simpa using this
  cases b
  · obtain ⟨h30, hR⟩ := hb rfl
    have hnum := Lib.hid (show ∀ f ∈ fs, 0 ≤ f.num ∧ f.num ≤ 4611686018427387904 from fun f hf => by
      have h1 := hR.2.2.2.2.2.2.2.1 f hf
      have h2 := hR.2.2.2.1
      have h3 := h1.1
      have h4 := h1.2.1
      omega)
    obtain ⟨a0, a1, a2, a3⟩ := row4 hg1
    have Hg1 := Lib.hid hg1
    clear hb hb1 hbx hg1 hR
    go_wp2_with fail
    refine (version_any w.heap.size A len cap fs lg nx sq _ (by omega) (Hr.out.below hbw) (by omega)).mono ?_
    rintro e w2 ⟨A2, c2, rfl, hown2, hb2⟩
    have Hr2 := Lib.hid (Reads.of_own hown2)
    have Hg2 := Lib.hid ((hb2.block w.heap.size (by omega)).trans Hg1.out)
    have hbw2 := hbw.trans (hb2.mono (by omega))
    have hz2 := hb2.size
    clear a0 a1 a2 a3 hown2 hb2
    go_wp2_with fail
    refine (take_any _ A2 len c2 fs lg nx sq n _ (by omega) Hr2.out (Nat.le_refl _) hnum.out).mono ?_
    rintro e w3 ⟨hT, hb3⟩
    have hg3 := (hb3.block w.heap.size (by omega)).trans Hg2.out
    obtain ⟨a0, a1, a2, a3⟩ := row4 hg3
    have hbw3 := hbw2.trans (hb3.mono (by omega))
    have hz3 := hb3.size
    have hlt3 : w.heap.size < w3.heap.size := by omega
    have Hg3 := Lib.hid hg3
    have hb3' := hb3
    clear hb3 hg3 hbw hbw2
    rcases hT with ⟨hnil, rfl⟩ | ⟨hne, va, vb, rfl, hva, hvb⟩
    · have Hnil := Lib.hid hnil
      clear hnil hb3'
      go_wp2_with fail
      refine (takes_any w.heap.size A len cap fs lg nx sq n false _ _ (by omega) ((Hr.out.below hbw3).alloc (by omega) _) (by simp; omega) (.inl ⟨Hnil.out, rfl, rfl⟩)).mono ?_
      rintro e w4 ⟨rfl, hb4⟩
      have hbw4 := below_of_alloc hbw3 (by omega) hb4
      have hz4 := size_of_alloc hb4
      clear hb4
      go_wp2_with fail
      refine (awake_any _).mono ?_
      rintro e w5 ⟨rfl, hb5⟩
      go_wp2_with fail
      go_ret
      exact ⟨rfl, hbw4.trans (hb5.mono (by omega))⟩
    · have Hne := Lib.hid hne
      obtain ⟨Aa, ca, rfl, ra⟩ := reads_own hva
      obtain ⟨Ab, cb, rfl, rb⟩ := reads_own hvb
      have Ra := Lib.hid ra
      have Rb := Lib.hid rb
      obtain ⟨na, hna⟩ : ∃ m, m = (takeFrom fs n).length := ⟨_, rfl⟩
      obtain ⟨nb, hnb⟩ : ∃ m, m = (takeInto fs n).length := ⟨_, rfl⟩
      obtain ⟨bb, hbb⟩ : ∃ b, b = (decide (0 < n) && (takeInto fs n).isEmpty) := ⟨_, rfl⟩
      rw [← hna, ← hnb, ← hbb]
      have Hna := Lib.hid hna
      have Hnb := Lib.hid hnb
      have Hbb := Lib.hid hbb
      clear hne hva hvb ra rb hna hnb hbb hb3'
      go_wp2_with fail
      refine (takes_any w.heap.size A len cap fs lg nx sq n true _ _ (by omega) ((Hr.out.below hbw3).alloc (by omega) _) (by simp; omega)
        (.inr ⟨Hne.out, rfl, Aa, ca, Ab, cb, by rw [← Hna.out, ← Hnb.out, ← Hbb.out], (Ra.out.alloc (Nat.le_refl _) _).more (by simp), (Rb.out.alloc (Nat.le_refl _) _).more (by simp)⟩)).mono ?_
      rintro e w4 ⟨rfl, hb4⟩
      have hbw4 := below_of_alloc hbw3 (by omega) hb4
      have hz4 := size_of_alloc hb4
      clear hb4
      go_wp2_with fail
      refine (awake_any _).mono ?_
      rintro e w5 ⟨rfl, hb5⟩
      go_wp2_with fail
      go_ret
      exact ⟨rfl, hbw4.trans (hb5.mono (by omega))⟩
  · clear hb hb1 hbx hg1
    go_wp2_with fail
    refine (awake_any _).mono ?_
    rintro e w2 ⟨rfl, hb2⟩
    go_wp2_with fail
    go_ret
    exact ⟨rfl, hbw.trans (hb2.mono (by omega))⟩

namespace LevelTakes
theorem own : ownKnob Try.prog.godebug = none := by kernel_rfl
theorem laidOut : laidOutB Try.prog = true := by kernel_rfl
set_option maxRecDepth 100000 in
theorem lifted (os : Os) (started : os.Started) (H : Type) (enc : TypeId × Value → H) :
    ReturnsInHanded {} Try.checked os 3 .any (Rows.levelTakesSpec.pre6 enc Try.prog Try.f3 Rows.levelTakesRow.domain false) (Rows.levelTakesSpec.post enc Try.prog Try.f3 false true false false) := by
  refine returnsInHanded_of_change (C := Try.checked) own started (by kernel_rfl) Try.func3
    (ChangeSpec.witness6 (enc := enc) (C := Try.checked) false ⟨#[], #[.agg #[.int .i64 0, .int .i64 0, .int .i64 0, .slice none 0 0], .int .i64 0], []⟩ 8 (by kernel_rfl) (by kernel_rfl) (by kernel_rfl) (by kernel_rfl)) ?_
  intro W base args ds gs before hval0 hW hcnd _
  have hval : ∀ (j : Nat) t v, Try.f3.params[j]? = some t → args[j]? = some v → Value.okWide Try.prog W .any base t v := hval0
  have hW' := hW
  obtain ⟨p, q, hA0, hV, rfl, hfz, hnd⟩ := hW
  have hA : DataW.TrodAll enc Try.prog W 0 (fun _ => true) true Try.f3.params.toList args.toList ds p := hA0
  rw [Try.params3] at hA hval
  obtain ⟨v0, vs0, d0, ds0, p0, q0, hargs, rfl, rfl, h0, r0⟩ := trodAll_cons hA
  obtain ⟨v1, vs1, d1, ds1, p1, q1, rfl, rfl, rfl, h1, r1⟩ := trodAll_cons r0
  obtain ⟨rfl, rfl, rfl⟩ := trodAll_nil r1
  obtain rfl : args = #[v0, v1] := by cases args; simp_all
  obtain ⟨rfl, rfl⟩ := trodVars_none hV
  have k0 := h0
  have lt0 : ∀ x ∈ p0, x.block < W.heap.size := by obtain ⟨m, hm⟩ := k0; exact DataW.trod_lt m _ _ _ hm
  have k1 := h1
  have lt1 : ∀ x ∈ p1, x.block < W.heap.size := by obtain ⟨m, hm⟩ := k1; exact DataW.trod_lt m _ _ _ hm
  obtain ⟨lg, nx, sq, A, len, cap, fs, rfl, hr⟩ := open_version (hval 0 _ v0 rfl rfl) h0
  obtain ⟨n, rfl, rfl, rfl, w1⟩ := open_int Try.underlying3 (hval 1 3 v1 rfl rfl) h1
  clear hA0 hval0
  refine (walk_takes A len cap fs lg nx sq n W hr).mono fun e W' ⟨he, bel⟩ => ?_
  subst he
  exact ⟨_, rfl, _, _, _, [], _, [], hW', trodAll_mk1 (shut_bool Try.underlying4 _), (trodAll_cons_mk (Below.trod laidOut (by kernel_rfl) (of_decide_eq_true (by kernel_rfl)) k0 bel lt0) (trodAll_cons_mk (Below.trod laidOut (by kernel_rfl) (of_decide_eq_true (by kernel_rfl)) k1 bel lt1) trodAll_mk0)), rfl, bel.frame _, fun h => by cases h⟩

theorem over : Rows.levelTakesRow.holds Try.pinned (OpenSpec.ofChange Rows.levelTakesSpec) :=
  OpenClaim.holds_of_wide 3 Try.f3 rfl rfl rfl rfl rfl rfl rfl ⟨rfl, rfl, rfl, rfl, rfl⟩ rfl rfl rfl rfl rfl (by kernel_rfl) Try.func3 (by kernel_rfl)
    (of_decide_eq_true (by kernel_rfl)) (by unfold Func.isWrapper; first | (rw [if_pos (by decide +kernel)]; kernel_rfl) | (rw [if_neg (by decide +kernel)]; exact ⟨rfl, rfl⟩))
    (fun os started H enc _ => lifted os started H enc)

theorem proved : Rows.LevelTakesSaid := over

#print axioms proved
end LevelTakes
end Go.Proofs.Ytpbkbkgankplbaa
