/-
  LevelFinds: of any version the files within any span, and those that may hold any key; whether a key is at the bottom: the statement returns true. No condition.
-/
import Derived.Test.YtpbkbkgankplbaaLawD
import Derived.Test.YtpbkbkgankplbaaGreat
import Derived.Test.YtpbkbkgankplbaaOpen
import Derived.Deep.RegionHeld3
namespace Go.Proofs.Ytpbkbkgankplbaa
open Go.ChangeShapes Go.WideShapes Go.ChangeAt Go.RowKit

/-- What is held in the statement's last line: the boxed version, the program's own, the document's list. -/
structure FSx (w W : World) (g : Nat) (vs xs : Array Value) : Prop where
  box : W.heap[w.heap.size]? = some (.cells vs 24 (0, 0))
  own : W.heap[g]? = some (.cells xs 34 (0, 0))
  lt : w.heap.size < g
  below : Below w.heap.size w W
theorem FSx.step {w W W' : World} {g : Nat} {vs xs : Array Value} (h : FSx w W g vs xs) (hb : Below (g + 1) W W') : FSx w W' g vs xs :=
  have := h.lt
  ⟨(hb.block _ (by omega)).trans h.box, (hb.block _ (by omega)).trans h.own, h.lt, h.below.trans (hb.mono (by omega))⟩

def bottomTo (n : Int) (key : ByteArray) (fs : List File) : Bool := (fs.filter (holdB key)).all (fun f => decide (f.level ≤ n))
theorem bottomTo_snoc (n : Int) (key : ByteArray) (l : List File) (f : File) : bottomTo n key (l ++ [f]) = if holdB key f = true then (bottomTo n key l && decide (f.level ≤ n)) else bottomTo n key l := by
  unfold bottomTo
  rw [List.filter_append]
  cases h : holdB key f <;> simp [h]
theorem bottomTo_any (n : Int) (key : ByteArray) (l : List File) : (!(l.filter (holdB key)).any (aboveB n)) = bottomTo n key l := by
  unfold bottomTo
  induction l.filter (holdB key) with
  | nil => rfl
  | cons f r ih =>
    simp only [List.any_cons, List.all_cons, Bool.not_or, ih]
    congr 1
    unfold aboveB
    by_cases h : f.level ≤ n
    · rw [decide_eq_true h, decide_eq_false (by omega)]; rfl
    · rw [decide_eq_false h, decide_eq_true (by omega)]; rfl

theorem fs_b {p : Prop} {w wr W : World} {g B : Nat} {vs xs : Array Value} (h : p ∧ (FSx w W g vs xs ∧ Below B wr W)) : Below B wr W := h.2.2
theorem fs_sz {p : Prop} {w wr W : World} {g : Nat} {vs xs : Array Value} (h : p ∧ (FSx w W g vs xs ∧ Below wr.heap.size wr W)) : wr.heap.size ≤ W.heap.size := h.2.2.size
theorem fs_step {p : Prop} {w wr W W' : World} {g : Nat} {vs xs : Array Value} (h : p ∧ (FSx w W g vs xs ∧ Below wr.heap.size wr W)) (hb : Below W.heap.size W W') (hz : g + 1 ≤ wr.heap.size) : FSx w W' g vs xs ∧ Below wr.heap.size wr W' :=
  have := h.2.2.size
  ⟨h.2.1.step (hb.mono (by omega)), h.2.2.trans (hb.mono this)⟩
theorem withinS_any (B : Nat) (A : Option Addr) (len cap : Nat) (fs : List File) (lg nx sq n : Int) (lo hi : ByteArray) (w : World) (hlen : len * 64 ≤ 140737488351232) (hr : Reads w B 6 A len (cellsOf fs)) (hB : B ≤ w.heap.size) :
    Calls Try.prog 23 #[.agg #[.int .i64 lg, .int .i64 nx, .int .i64 sq, .slice A len cap], .int .i64 n, .string lo, .string hi] w fun e w' =>
      ∃ v, e = .returned v ∧ w'.ownsRow w.heap.size 47 6 v (withinS fs n lo hi).length (cellsOf (withinS fs n lo hi)) ∧ Below w.heap.size w w' := by
  rw [← inL_within]
  exact withinL_any B A len cap fs lg nx sq n lo hi w hlen hr hB
theorem bottomB_any (B : Nat) (A : Option Addr) (len cap : Nat) (fs : List File) (lg nx sq n : Int) (key : ByteArray) (b : Bool) (hb : b = bottomTo n key fs) (w : World) (hlen : len * 64 ≤ 140737488351232) (hr : Reads w B 6 A len (cellsOf fs)) (hB : B ≤ w.heap.size) :
    Calls Try.prog 25 #[.agg #[.int .i64 lg, .int .i64 nx, .int .i64 sq, .slice A len cap], .int .i64 n, .string key] w fun e w' => e = .returned (.bool b) ∧ Below w.heap.size w w' := by
  rw [hb, ← bottomTo_any]
  exact bottom_any B A len cap fs lg nx sq n key w hlen hr hB
set_option maxHeartbeats 3200000 in
set_option maxRecDepth 100000 in
theorem walk_finds (A : Option Addr) (len cap : Nat) (fs : List File) (lg nx sq n : Int) (lo hi key : ByteArray) (w : World) (hr : Reads w w.heap.size 6 A len (cellsOf fs)) :
    Calls Try.prog 6 #[.agg #[.int .i64 lg, .int .i64 nx, .int .i64 sq, .slice A len cap], .int .i64 n, .string lo, .string hi, .string key] w fun e w' => e = .returned (.bool true) ∧ Below w.heap.size w w' := by
  have Hr := Lib.hid hr
  have Hlf := Lib.hid (length_of_cells hr)
  clear hr
  obtain ⟨i0, hi0, hy0, hy1, hy2⟩ := info_parts infoRF
  go_enter Try.func6, Try.ntmps6
  go_wp2_with fail
  refine (great_any w.heap.size A len cap fs lg nx sq _ (Hr.out.alloc (Nat.le_refl _) _) (by simp)).mono ?_
  rintro e w1 ⟨b, rfl, hb, hb1⟩
  have hbx := hb1.mono (show w.heap.size + 1 ≤ _ by simp)
  have hg1 := (hbx.block w.heap.size (by omega)).trans (heap_alloc_new w _)
  have hbw := below_of_alloc (Below.refl w.heap.size w) (Nat.le_refl _) hb1
  have hz1 : w.heap.size + 1 ≤ w1.heap.size := by have := hb1.size; simpa using this
  cases b
  · obtain ⟨h30, -⟩ := hb rfl
    obtain ⟨a0, a1, a2, a3⟩ := row4 hg1
    have Hg1 := Lib.hid hg1
    clear hb hb1 hbx hg1
    by_cases hs : lo.size ≤ 300 ∧ hi.size ≤ 300 ∧ key.size ≤ 300
    · obtain ⟨s1, s2, s3⟩ := hs
      go_wp2_with fail
      refine (version_any w.heap.size A len cap fs lg nx sq _ (by omega) (Hr.out.below hbw) (by omega)).mono ?_
      rintro e w2 ⟨A2, c2, rfl, hown2, hb2⟩
      have HX := Lib.hid (Reads.of_own hown2)
      have hz2 := hb2.size
      have hfs : FSx w (w2.alloc (.cells #[.int .i64 lg, .int .i64 nx, .int .i64 sq, .slice A2 len c2] 34)) w2.heap.size #[.int .i64 lg, .int .i64 nx, .int .i64 sq, .slice A len cap] #[.int .i64 lg, .int .i64 nx, .int .i64 sq, .slice A2 len c2] :=
        ⟨(Below.heap_alloc _ _ _ (by omega)).trans ((hb2.block _ (by omega)).trans Hg1.out), heap_alloc_new w2 _, by omega, (hbw.trans (hb2.mono (by omega))).alloc (by omega) _⟩
      have HFS := Lib.hid hfs
      clear hfs hown2 hb2 a0 a1 a2 a3
      go_wp2_with fail
      go_loopw [12, 13, 14] (fun u v i wr => ∃ (k : Nat) (A' : Option Addr) (c' : Nat), k ≤ len ∧ i = .int .i64 k ∧ u = .slice A' ((fs.take k).filter (holdB key)).length c' ∧ v = .bool (bottomTo n key (fs.take k)) ∧
          wr.ownsRow (w2.heap.size + 1) 47 6 (.slice A' ((fs.take k).filter (holdB key)).length c') ((fs.take k).filter (holdB key)).length (cellsOf ((fs.take k).filter (holdB key))) ∧ w2.heap.size + 1 ≤ wr.heap.size ∧ Below w2.heap.size w2 wr ∧
          FSx w wr w2.heap.size #[.int .i64 lg, .int .i64 nx, .int .i64 sq, .slice A len cap] #[.int .i64 lg, .int .i64 nx, .int .i64 sq, .slice A2 len c2])
        (fun _ _ i _ => len - (intOf i).toNat)
      case atStart => exact ⟨0, none, 0, Nat.zero_le _, rfl, rfl, rfl, World.ownsRow_nil _ _ _ _, by simp, (Below.refl _ _).alloc (Nat.le_refl _) _, HFS.out⟩
      case round =>
        obtain ⟨k, A', c', hk, rfl, rfl, rfl, hown, hzr, hb2, hfs⟩ := hrel
        obtain ⟨x0, x1, x2, x3⟩ := row4 hfs.box
        have hbr := hfs.below
        have HF := Lib.hid hfs
        clear hfs HFS x0 x1 x2
        by_cases hlt : k < len
        · obtain ⟨ad, f, rfl, hbl, hf, c0, c1, c2', c3, c4, c5⟩ := Hr.out.file hbr (Nat.le_refl _) hlt
          have hm : ((fs.take k).filter (holdB key)).length ≤ k := Nat.le_trans (List.length_filter_le _ _) (List.length_take_le _ _)
          have hbt := Lib.hid (show bottomTo n key (fs.take (k + 1)) = if holdB key f = true then (bottomTo n key (fs.take k) && decide (f.level ≤ n)) else bottomTo n key (fs.take k) by rw [List.take_add_one, hf]; exact bottomTo_snoc n key _ f)
          obtain ⟨bt, hbt2⟩ : ∃ b, b = bottomTo n key (fs.take k) := ⟨_, rfl⟩
          rw [← hbt2] at hbt ⊢
          clear hbt2
          cases hin : holdB key f
          · have e1 := Lib.hid (filter_miss (holdB key) fs k f hf hin)
            have e2 := Lib.hid (show bottomTo n key (fs.take (k + 1)) = bt by rw [hbt.out, hin]; rfl)
            have hany := hin
            unfold holdB leB at hany
            clear hf hin
            cases h1 : (Op.bytesLess f.first.toList key.toList || f.first.toList == key.toList)
            case false =>
              clear hany
              go_wp2_with fail
              go_roundw
              case rel => exact ⟨k + 1, A', c', by omega, by go_num, by rw [e1.out], by rw [e2.out], by rw [e1.out]; exact hown, hzr, hb2, HF.out⟩
              case measure => simp [intOf]; omega
            case true =>
              have h2 : (Op.bytesLess key.toList f.last.toList || key.toList == f.last.toList) = false := by rw [h1] at hany; simpa using hany
              clear hany
              go_wp2_with fail
              go_roundw
              case rel => exact ⟨k + 1, A', c', by omega, by go_num, by rw [e1.out], by rw [e2.out], by rw [e1.out]; exact hown, hzr, hb2, HF.out⟩
              case measure => simp [intOf]; omega
          · have e1 := Lib.hid (filter_hit (holdB key) fs k f hf hin)
            have e2 := Lib.hid (show bottomTo n key (fs.take (k + 1)) = (bt && decide (f.level ≤ n)) by rw [hbt.out, hin]; rfl)
            have Hf := Lib.hid hf
            have hany := hin
            unfold holdB leB at hany
            have h1 : (Op.bytesLess f.first.toList key.toList || f.first.toList == key.toList) = true := (Bool.and_eq_true_iff.1 hany).1
            have h2 : (Op.bytesLess key.toList f.last.toList || key.toList == f.last.toList) = true := (Bool.and_eq_true_iff.1 hany).2
            clear hf hin hany
            cases bt
            all_goals
              go_wp2_with (at_builtin; refine wpList_append_one rfl (.tmp 60) (.tmp 66) _ rfl (w2.heap.size + 1) _ i0 _ 6 64 Try.underlying22 hi0 hy0 hy1 hy2 rfl (by decide) wr #[.int .i64 f.num, .int .i64 f.level, .string f.first, .string f.last, .int .i64 f.count, .int .i64 f.size] _ _ _ rfl hown _ rfl rfl rfl (by simp [Value.oneCell']) (by simp only [maxLen]; omega) hzr ?_; intro v' w' hown' hb' hz'; obtain ⟨A4, c4', rfl, -⟩ := reads_own hown'; have hst := hb' (w2.heap.size + 1) wr (Nat.le_refl _) (Below.refl _ _); have HF' := Lib.hid (HF.out.step hst); obtain ⟨q0, q1, q2, q3⟩ := row4 HF'.out.box; have hgt := HF'.out.lt; obtain ⟨ad2, f2, had2, -, hf2, d0, d1, d2, d3, d4, d5⟩ := Hr.out.file HF'.out.below (Nat.le_refl _) hlt; injection had2 with had2; subst had2; obtain rfl : f2 = f := by { have := Hf.out; rw [hf2] at this; injection this }; clear hf2)
              go_roundw
            all_goals first
              | (case rel => exact ⟨k + 1, A4, c4', by omega, by go_num, by rw [e1.out, List.length_append]; rfl, by rw [e2.out]; first | rfl | simp, by rw [e1.out, List.length_append, cellsOf_snoc]; exact hown', by omega, hb2.trans (hst.mono (by omega)), HF'.out⟩)
              | (case measure => simp [intOf]; omega)
        · obtain rfl : k = len := by omega
          have hall := Lib.hid (show fs.take k = fs from List.take_of_length_le (by rw [Hlf.out]; omega))
          rw [hall.out] at hown ⊢
          have hql : (fs.filter (holdB key)).length ≤ k := by rw [← Hlf.out]; exact List.length_filter_le _ _
          have hwl : (withinS fs n lo hi).length ≤ k := by rw [← Hlf.out]; exact Nat.le_trans (List.length_filter_le _ _) (List.length_filter_le _ _)
          have HS := Lib.hid (show ∀ W, Below wr.heap.size wr W → Reads W wr.heap.size 6 A' (fs.filter (holdB key)).length (cellsOf (fs.filter (holdB key))) from fun W h => (Reads.of_own hown).below h)
          have HXr := Lib.hid (show ∀ W, Below wr.heap.size wr W → Reads W wr.heap.size 6 A2 k (cellsOf fs) from fun W h => ((HX.out.below hb2).more (by omega)).below h)
          have hwz : w.heap.size ≤ wr.heap.size := by have := HF.out.lt; omega
          have HRr := Lib.hid (show ∀ W, Below wr.heap.size wr W → Reads W wr.heap.size 6 A k (cellsOf fs) from fun W h => ((Hr.out.below hbr).more hwz).below h)
          obtain ⟨bt, hbt⟩ : ∃ b, b = bottomTo n key fs := ⟨_, rfl⟩
          have Hbt := Lib.hid hbt
          rw [← hbt]
          clear hbt hown
          have HK : ∀ W : World, FSx w W w2.heap.size #[.int .i64 lg, .int .i64 nx, .int .i64 sq, .slice A k cap] #[.int .i64 lg, .int .i64 nx, .int .i64 sq, .slice A2 k c2] ∧ Below wr.heap.size wr W →
              (W.cell? ⟨w.heap.size, 0, none⟩ = some (.int .i64 lg) ∧ W.cell? ⟨w.heap.size, 1, none⟩ = some (.int .i64 nx) ∧ W.cell? ⟨w.heap.size, 2, none⟩ = some (.int .i64 sq) ∧ W.cell? ⟨w.heap.size, 3, none⟩ = some (.slice A k cap) ∧
                W.cell? ⟨w2.heap.size, 0, none⟩ = some (.int .i64 lg) ∧ W.cell? ⟨w2.heap.size, 1, none⟩ = some (.int .i64 nx) ∧ W.cell? ⟨w2.heap.size, 2, none⟩ = some (.int .i64 sq) ∧ W.cell? ⟨w2.heap.size, 3, none⟩ = some (.slice A2 k c2)) ∧
              (FSx w W w2.heap.size #[.int .i64 lg, .int .i64 nx, .int .i64 sq, .slice A k cap] #[.int .i64 lg, .int .i64 nx, .int .i64 sq, .slice A2 k c2] ∧ Below wr.heap.size wr W) := fun W h => by
            obtain ⟨a0, a1, a2, a3⟩ := row4 h.1.box
            obtain ⟨b0, b1, b2, b3⟩ := row4 h.1.own
            exact ⟨⟨a0, a1, a2, a3, b0, b1, b2, b3⟩, h⟩
          have HKK := Lib.hid HK
          clear HK
          go_wp2_with fail
          go_region_held3 (fun W => (W.cell? ⟨w.heap.size, 0, none⟩ = some (.int .i64 lg) ∧ W.cell? ⟨w.heap.size, 1, none⟩ = some (.int .i64 nx) ∧ W.cell? ⟨w.heap.size, 2, none⟩ = some (.int .i64 sq) ∧ W.cell? ⟨w.heap.size, 3, none⟩ = some (.slice A k cap) ∧
                W.cell? ⟨w2.heap.size, 0, none⟩ = some (.int .i64 lg) ∧ W.cell? ⟨w2.heap.size, 1, none⟩ = some (.int .i64 nx) ∧ W.cell? ⟨w2.heap.size, 2, none⟩ = some (.int .i64 sq) ∧ W.cell? ⟨w2.heap.size, 3, none⟩ = some (.slice A2 k c2)) ∧
              (FSx w W w2.heap.size #[.int .i64 lg, .int .i64 nx, .int .i64 sq, .slice A k cap] #[.int .i64 lg, .int .i64 nx, .int .i64 sq, .slice A2 k c2] ∧ Below wr.heap.size wr W))
            (first | exact HKK.out _ ⟨HF.out.step ((Below.refl _ _).drewN 1), (Below.refl _ _).drewN 1⟩ | exact HKK.out _ (fs_step (by assumption) (by assumption) hzr))
            (first
              | (go_at_call 22; refine (within_any wr.heap.size A2 k c2 fs lg nx sq n lo hi _ (by omega) (HXr.out _ (fs_b (by assumption))) (fs_sz (by assumption))).mono ?_; rintro e w3 ⟨v, rfl, hown3, hb3⟩; obtain ⟨A3, c3, rfl, r3⟩ := reads_own hown3)
              | (go_at_call 21; (with_reducible refine (told_any _ A3 _ c3 (withinS fs n lo hi) _ (by omega) r3 (Nat.le_refl _)).mono ?_); rintro e w4 ⟨v, rfl, hown4, hb4⟩; obtain ⟨A4, c4, rfl, r4⟩ := reads_own hown4)
              | (go_at_call 23; refine (withinS_any wr.heap.size A k cap fs lg nx sq n lo hi _ (by omega) (HRr.out _ (fs_b (by assumption))) (fs_sz (by assumption))).mono ?_; rintro e w5 ⟨v, rfl, hown5, hb5⟩; obtain ⟨A5, c5, rfl, r5⟩ := reads_own hown5; have r45 := (r4.below hb5).more hb5.size)
              | (go_at_call 20; (with_reducible refine (sameFiles_eq _ A4 A5 _ c4 c5 (withinS fs n lo hi) _ (by omega) r45 r5 (Nat.le_refl _)).mono ?_); rintro e w6 ⟨rfl, hb6⟩)
              | (go_at_call 24; refine (holding_any wr.heap.size A2 k c2 fs lg nx sq key _ (by omega) (HXr.out _ (fs_b (by assumption))) (fs_sz (by assumption))).mono ?_; rintro e w7 ⟨v, rfl, hown7, hb7⟩; obtain ⟨A7, c7, rfl, r7⟩ := reads_own hown7)
              | (go_at_call 21; (with_reducible refine (told_any _ A7 _ c7 (fs.filter (holdB key)) _ (by omega) r7 (Nat.le_refl _)).mono ?_); rintro e w8 ⟨v, rfl, hown8, hb8⟩; obtain ⟨A8, c8, rfl, r8⟩ := reads_own hown8)
              | (go_at_call 20; (with_reducible refine (sameFiles_eq _ A8 A' _ c8 c' (fs.filter (holdB key)) _ (by omega) r8 ((HS.out _ (fs_b (by assumption))).more (fs_sz (by assumption))) (Nat.le_refl _)).mono ?_); rintro e w9 ⟨rfl, hb9⟩)
              | (go_at_call 25; refine (bottomB_any wr.heap.size A2 k c2 fs lg nx sq n key bt Hbt.out _ (by omega) (HXr.out _ (fs_b (by assumption))) (fs_sz (by assumption))).mono ?_; rintro e w10 ⟨rfl, hb10⟩)
              | (go_at_call 9; refine (awake_any _).mono ?_; rintro e w11 ⟨rfl, hb11⟩))
          rename_i hS
          go_wp2_with fail
          go_ret
          exact ⟨by first | rfl | simp, hS.2.1.below⟩
    · have hd : 300 < lo.size ∨ 300 < hi.size ∨ 300 < key.size := by omega
      clear hs
      go_wp2_with (go_at_call 9; refine (awake_any _).mono ?_; rintro e w2 ⟨rfl, hb2⟩)
      all_goals first
        | (exfalso; omega)
        | (go_ret; exact ⟨rfl, hbw.trans (hb2.mono (by omega))⟩)
  · clear hb hb1 hbx hg1
    go_wp2_with fail
    refine (awake_any _).mono ?_
    rintro e w2 ⟨rfl, hb2⟩
    go_wp2_with fail
    go_ret
    exact ⟨rfl, hbw.trans (hb2.mono (by omega))⟩

namespace LevelFinds
theorem own : ownKnob Try.prog.godebug = none := by kernel_rfl
theorem laidOut : laidOutB Try.prog = true := by kernel_rfl
set_option maxRecDepth 100000 in
theorem lifted (os : Os) (started : os.Started) (H : Type) (enc : TypeId × Value → H) :
    ReturnsInHanded {} Try.checked os 6 .any (Rows.levelFindsSpec.pre6 enc Try.prog Try.f6 Rows.levelFindsRow.domain false) (Rows.levelFindsSpec.post enc Try.prog Try.f6 false true false false) := by
  refine returnsInHanded_of_change (C := Try.checked) own started (by kernel_rfl) Try.func6
    (ChangeSpec.witness6 (enc := enc) (C := Try.checked) false ⟨#[], #[.agg #[.int .i64 0, .int .i64 0, .int .i64 0, .slice none 0 0], .int .i64 0, .string ByteArray.empty, .string ByteArray.empty, .string ByteArray.empty], []⟩ 8 (by kernel_rfl) (by kernel_rfl) (by kernel_rfl) (by kernel_rfl)) ?_
  intro W base args ds gs before hval0 hW hcnd _
  have hval : ∀ (j : Nat) t v, Try.f6.params[j]? = some t → args[j]? = some v → Value.okWide Try.prog W .any base t v := hval0
  have hW' := hW
  obtain ⟨p, q, hA0, hV, rfl, hfz, hnd⟩ := hW
  have hA : DataW.TrodAll enc Try.prog W 0 (fun _ => true) true Try.f6.params.toList args.toList ds p := hA0
  rw [Try.params6] at hA hval
  obtain ⟨v0, vs0, d0, ds0, p0, q0, hargs, rfl, rfl, h0, r0⟩ := trodAll_cons hA
  obtain ⟨v1, vs1, d1, ds1, p1, q1, rfl, rfl, rfl, h1, r1⟩ := trodAll_cons r0
  obtain ⟨v2, vs2, d2, ds2, p2, q2, rfl, rfl, rfl, h2, r2⟩ := trodAll_cons r1
  obtain ⟨v3, vs3, d3, ds3, p3, q3, rfl, rfl, rfl, h3, r3⟩ := trodAll_cons r2
  obtain ⟨v4, vs4, d4, ds4, p4, q4, rfl, rfl, rfl, h4, r4⟩ := trodAll_cons r3
  obtain ⟨rfl, rfl, rfl⟩ := trodAll_nil r4
  obtain rfl : args = #[v0, v1, v2, v3, v4] := by cases args; simp_all
  obtain ⟨rfl, rfl⟩ := trodVars_none hV
  have k0 := h0
  have lt0 : ∀ x ∈ p0, x.block < W.heap.size := by obtain ⟨m, hm⟩ := k0; exact DataW.trod_lt m _ _ _ hm
  have k1 := h1
  have lt1 : ∀ x ∈ p1, x.block < W.heap.size := by obtain ⟨m, hm⟩ := k1; exact DataW.trod_lt m _ _ _ hm
  have k2 := h2
  have lt2 : ∀ x ∈ p2, x.block < W.heap.size := by obtain ⟨m, hm⟩ := k2; exact DataW.trod_lt m _ _ _ hm
  have k3 := h3
  have lt3 : ∀ x ∈ p3, x.block < W.heap.size := by obtain ⟨m, hm⟩ := k3; exact DataW.trod_lt m _ _ _ hm
  have k4 := h4
  have lt4 : ∀ x ∈ p4, x.block < W.heap.size := by obtain ⟨m, hm⟩ := k4; exact DataW.trod_lt m _ _ _ hm
  obtain ⟨lg, nx, sq, A, len, cap, fs, rfl, hr⟩ := open_version (hval 0 _ v0 rfl rfl) h0
  obtain ⟨n, rfl, rfl, rfl, w1⟩ := open_int Try.underlying3 (hval 1 3 v1 rfl rfl) h1
  obtain ⟨lo, rfl, rfl, rfl, w2⟩ := Go.ChangeMaps.open_string Try.underlying9 (hval 2 9 v2 rfl rfl) h2
  obtain ⟨hi, rfl, rfl, rfl, w3⟩ := Go.ChangeMaps.open_string Try.underlying9 (hval 3 9 v3 rfl rfl) h3
  obtain ⟨key, rfl, rfl, rfl, w4⟩ := Go.ChangeMaps.open_string Try.underlying9 (hval 4 9 v4 rfl rfl) h4
  clear hA0 hval0
  refine (walk_finds A len cap fs lg nx sq n lo hi key W hr).mono fun e W' ⟨he, bel⟩ => ?_
  subst he
  exact ⟨_, rfl, _, _, _, [], _, [], hW', trodAll_mk1 (shut_bool Try.underlying4 _), (trodAll_cons_mk (Below.trod laidOut (by kernel_rfl) (of_decide_eq_true (by kernel_rfl)) k0 bel lt0) (trodAll_cons_mk (Below.trod laidOut (by kernel_rfl) (of_decide_eq_true (by kernel_rfl)) k1 bel lt1) (trodAll_cons_mk (Below.trod laidOut (by kernel_rfl) (of_decide_eq_true (by kernel_rfl)) k2 bel lt2) (trodAll_cons_mk (Below.trod laidOut (by kernel_rfl) (of_decide_eq_true (by kernel_rfl)) k3 bel lt3) (trodAll_cons_mk (Below.trod laidOut (by kernel_rfl) (of_decide_eq_true (by kernel_rfl)) k4 bel lt4) trodAll_mk0))))), rfl, bel.frame _, fun h => by cases h⟩

theorem over : Rows.levelFindsRow.holds Try.pinned (OpenSpec.ofChange Rows.levelFindsSpec) :=
  OpenClaim.holds_of_wide 6 Try.f6 rfl rfl rfl rfl rfl rfl rfl ⟨rfl, rfl, rfl, rfl, rfl⟩ rfl rfl rfl rfl rfl (by kernel_rfl) Try.func6 (by kernel_rfl)
    (of_decide_eq_true (by kernel_rfl)) (by unfold Func.isWrapper; first | (rw [if_pos (by decide +kernel)]; kernel_rfl) | (rw [if_neg (by decide +kernel)]; exact ⟨rfl, rfl⟩))
    (fun os started H enc _ => lifted os started H enc)

theorem proved : Rows.LevelFindsSaid := over

#print axioms proved
end LevelFinds
end Go.Proofs.Ytpbkbkgankplbaa
