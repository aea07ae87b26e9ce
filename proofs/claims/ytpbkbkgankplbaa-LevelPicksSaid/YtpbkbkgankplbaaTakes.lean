/-
  The statements' takes: a task that is what Take answers is what the document says. Condition: the slice lies within reach, the numbers within 62 bits.
-/
import Derived.Test.YtpbkbkgankplbaaLawD
namespace Go.Proofs.Ytpbkbkgankplbaa
open Go.RowKit

theorem takeFrom_other (l : List File) (f : File) (n : Int) (h : f.level ≠ n ∨ n < 0 ∨ 3 < n) : takeFrom (l ++ [f]) n = takeFrom l n := by
  unfold takeFrom
  by_cases hn : n < 0 ∨ 4 ≤ n
  · rw [if_pos hn, if_pos hn]
  · have hf : (f.level == n) = false := by simpa using (show f.level ≠ n by rcases h with h | h; exact h; omega)
    rw [if_neg hn, if_neg hn, List.filter_append]
    simp [hf]
theorem takeFrom_zero (l : List File) (f : File) (n : Int) (h : f.level = n) (h0 : 0 ≤ n) (h1 : n ≤ 0) : takeFrom (l ++ [f]) n = takeFrom l n ++ [f] := by
  unfold takeFrom
  rw [if_neg (by omega), if_neg (by omega), List.filter_append]
  have hf : (f.level == n) = true := by simpa using h
  cases hl : l.filter (·.level == n) with
  | nil => simp [hf]; intro; omega
  | cons g r => simp [hf]; rw [if_neg (by omega), if_neg (by omega)]; rfl
theorem takeFrom_first (l : List File) (f : File) (n : Int) (h : f.level = n) (h0 : 0 < n) (h1 : n ≤ 3) (he : takeFrom l n = []) : takeFrom (l ++ [f]) n = [f] := by
  unfold takeFrom at he ⊢
  rw [if_neg (by omega)] at he ⊢
  have hf : (f.level == n) = true := by simpa using h
  rw [List.filter_append]
  cases hl : l.filter (·.level == n) with
  | nil => simp [hf, minBy]
  | cons g r => rw [hl] at he; simp only at he; rw [if_pos h0] at he; cases he
theorem takeFrom_next (l : List File) (f m : File) (n : Int) (h : f.level = n) (h0 : 0 < n) (h1 : n ≤ 3) (he : takeFrom l n = [m]) : takeFrom (l ++ [f]) n = [if f.num < m.num then f else m] := by
  unfold takeFrom at he ⊢
  rw [if_neg (by omega)] at he ⊢
  have hf : (f.level == n) = true := by simpa using h
  rw [List.filter_append]
  cases hl : l.filter (·.level == n) with
  | nil => rw [hl] at he; cases he
  | cons g r =>
    rw [hl] at he
    simp only at he
    rw [if_pos h0] at he
    injection he with he
    have : List.filter (fun x => x.level == n) [f] = [f] := by simp [hf]
    rw [this]
    show (if 0 < n then [minBy g (r ++ [f])] else _) = _
    rw [if_pos h0, minBy_snoc, he]
theorem takeFrom_pos (l : List File) (n : Int) (h0 : 0 < n) : takeFrom l n = [] ∨ ∃ m, takeFrom l n = [m] := by
  unfold takeFrom
  split
  · exact .inl rfl
  · split
    · exact .inl rfl
    · exact .inr ⟨_, rfl⟩
theorem takeFrom_len (l : List File) (n : Int) : (takeFrom l n).length ≤ l.length := by
  have h := List.length_filter_le (fun x : File => x.level == n) l
  unfold takeFrom
  split
  · simp
  · split
    · simp
    · rename_i f r hl
      rw [hl] at h
      simp only [List.length_cons] at h
      split
      · simp; omega
      · simpa using h

theorem takeInto_len (l : List File) (n : Int) : (takeInto l n).length ≤ l.length := by
  unfold takeInto
  split
  · simp
  · exact Nat.le_trans (List.length_filter_le _ _) (List.length_filter_le _ _)
/-- What the walk of takes keeps: the boxed version and task, and what lay below. -/
structure QS (w W : World) (vs ts : Array Value) : Prop where
  box : W.heap[w.heap.size]? = some (.cells vs 24 (0, 0))
  tsk : W.heap[w.heap.size + 1]? = some (.cells ts 29 (0, 0))
  size : w.heap.size + 2 ≤ W.heap.size
  below : Below w.heap.size w W
theorem QS.step {w W W' : World} {vs ts : Array Value} (h : QS w W vs ts) (hb : Below (w.heap.size + 2) W W') : QS w W' vs ts :=
  ⟨(hb.block _ (by omega)).trans h.box, (hb.block _ (by omega)).trans h.tsk, Nat.le_trans h.size hb.size, h.below.trans (hb.mono (by omega))⟩
theorem QS.start (w : World) (vs ts : Array Value) : QS w ((w.alloc (.cells vs 24)).alloc (.cells ts 29)) vs ts :=
  ⟨heap_alloc2_old w _ _, heap_alloc2_new w _ _, by simp, ((Below.refl _ _).alloc (Nat.le_refl _) _).alloc (by simp) _⟩

/-- A row of one file, another one stored in its place. -/
theorem own_set0 {w' : World} {base : Nat} {e : TypeId} {g cap : Nat} {cur : Array Value} {cs : Array Value} (hg : base ≤ g) (hs : cur.size = cap * 6) (hc : 1 ≤ cap) (hm : cap ≤ maxLen) (h6 : cs.size = 6)
    (h : w'.heap[g]? = some (.cells (cur.toList.take 0 ++ (cs.toList ++ cur.toList.drop (0 + cs.size))).toArray e (0, 0))) : w'.ownsRow base e 6 (.slice (some ⟨g, 0, none⟩) 1 cap) 1 cs.toList := by
  refine ⟨by simpa using h6, .inr ⟨g, cap, _, rfl, hg, h, hc, hm, ?_, ?_⟩⟩
  · have hl : cur.toList.length = cap * 6 := by simpa using hs
    rw [List.size_toArray, List.length_append, List.length_append, List.length_take, List.length_drop, hl, Array.length_toList, h6]
    omega
  · show List.take (1 * 6) (cur.toList.take 0 ++ (cs.toList ++ _)) = _
    rw [List.take_zero, List.nil_append, List.take_append_of_le_length (by simp [h6]), List.take_of_length_le (by simp [h6])]

theorem field3 (A : Option Addr) (k c : Nat) (w : World) : (Instr.field 34 (.agg #[.int .i64 0, .int .i64 0, .int .i64 0, .slice A k c]) 3).run Try.prog w = .ok (.slice A k c) w := by kernel_rfl
set_option maxHeartbeats 3200000 in
set_option maxRecDepth 100000 in
theorem takes_any (B : Nat) (A : Option Addr) (len cap : Nat) (fs : List File) (lg nx sq n : Int) (ok : Bool) (tv : Array Value) (w : World) (hlen : len * 64 ≤ 140737488351232) (hr : Reads w B 6 A len (cellsOf fs)) (hB : B ≤ w.heap.size)
    (hT : (takeFrom fs n = [] ∧ ok = false ∧ tv = #[.int .i64 0, .slice none 0 0, .slice none 0 0, .bool false]) ∨
      (takeFrom fs n ≠ [] ∧ ok = true ∧ ∃ Aa ca Ab cb, tv = #[.int .i64 n, .slice Aa (takeFrom fs n).length ca, .slice Ab (takeInto fs n).length cb, .bool (decide (0 < n) && (takeInto fs n).isEmpty)] ∧
        Reads w w.heap.size 1 Aa (takeFrom fs n).length (numsOf (takeFrom fs n)) ∧ Reads w w.heap.size 1 Ab (takeInto fs n).length (numsOf (takeInto fs n)))) :
    Calls Try.prog 12 #[.agg #[.int .i64 lg, .int .i64 nx, .int .i64 sq, .slice A len cap], .int .i64 n, .agg tv, .bool ok] w fun e w' => e = .returned (.bool true) ∧ Below w.heap.size w w' := by
  obtain ⟨i0, hi0, hz0, hz1, hz2⟩ := info_parts infoRF
  have Hlf := Lib.hid (length_of_cells hr)
  have Hr := Lib.hid hr
  have HT := Lib.hid hT
  obtain ⟨t0, t1, t2, t3, htv⟩ : ∃ t0 t1 t2 t3, tv = #[t0, t1, t2, t3] := by rcases hT with ⟨-, -, rfl⟩ | ⟨-, -, Aa, ca, Ab, cb, rfl, -⟩ <;> exact ⟨_, _, _, _, rfl⟩
  have Htv := Lib.hid htv
  rw [htv]
  clear hr hT htv
  go_enter Try.func12, Try.ntmps12
  go_wp2_with fail
  go_loopw [9, 10] (fun v i wr => ∃ (k : Nat) (A' : Option Addr) (c' : Nat), k ≤ len ∧ i = .int .i64 k ∧ v = .slice A' (takeFrom (fs.take k) n).length c' ∧ wr.ownsRow (w.heap.size + 2) 47 6 (.slice A' (takeFrom (fs.take k) n).length c') (takeFrom (fs.take k) n).length (cellsOf (takeFrom (fs.take k) n)) ∧
      QS w wr #[.int .i64 lg, .int .i64 nx, .int .i64 sq, .slice A len cap] #[t0, t1, t2, t3])
    (fun _ i _ => len - (intOf i).toNat)
  case atStart =>
    have e0 : takeFrom (fs.take 0) n = [] := by unfold takeFrom; simp
    exact ⟨0, none, 0, Nat.zero_le _, rfl, by rw [e0]; rfl, by rw [e0]; exact World.ownsRow_nil _ _ _ _, QS.start w _ _⟩
  case round =>
    obtain ⟨k, A', c', hk, rfl, rfl, hown, hq⟩ := hrel
    obtain ⟨x0, x1, x2, x3⟩ := row4 hq.box
    have hb := hq.below
    have hqs := hq.size
    have Hq := Lib.hid hq
    clear hq x0 x1 x2
    by_cases hlt : k < len
    · obtain ⟨ad, f, rfl, hbl, hf, c0, c1, c2, c3, c4, c5⟩ := Hr.out.file hb hB hlt
      have htk := Lib.hid (show fs.take (k + 1) = fs.take k ++ [f] by rw [List.take_add_one, hf]; rfl)
      have hm : (takeFrom (fs.take k) n).length ≤ k := Nat.le_trans (takeFrom_len _ _) (List.length_take_le _ _)
      have hqW := Lib.hid (Hq.out.step ((Below.refl (w.heap.size + 2) wr).alloc hqs (.cells #[.int .i64 f.num, .int .i64 f.level, .string f.first, .string f.last, .int .i64 f.count, .int .i64 f.size] 47)))
      clear hf
      by_cases hsk : f.level ≠ n ∨ n < 0 ∨ 3 < n
      · have e1 := Lib.hid (show takeFrom (fs.take (k + 1)) n = takeFrom (fs.take k) n by rw [htk.out]; exact takeFrom_other _ _ _ hsk)
        have Hsk := Lib.hid hsk
        clear hsk
        by_cases hlv : f.level = n
        · have h1 : (f.level != n) = false := by simpa using hlv
          have hn : n < 0 ∨ (0 ≤ n ∧ 3 < n) := by have := Hsk.out; omega
          clear hlv
          rcases hn with hn | ⟨hn0, hn⟩
          all_goals
            go_wp2_with fail
            go_roundw
          all_goals first
            | (case rel => exact ⟨k + 1, A', c', by omega, by go_num, by rw [e1.out], by rw [e1.out]; exact hown.alloc _, hqW.out⟩)
            | (case measure => simp [intOf]; omega)
        · have h1 : (f.level != n) = true := by simpa using hlv
          clear hlv
          go_wp2_with fail
          go_roundw
          case rel => exact ⟨k + 1, A', c', by omega, by go_num, by rw [e1.out], by rw [e1.out]; exact hown.alloc _, hqW.out⟩
          case measure => simp [intOf]; omega
      · have hlv : f.level = n := by omega
        have hn0 : 0 ≤ n := by omega
        have hn3 : n ≤ 3 := by omega
        have h1 : (f.level != n) = false := by simpa using hlv
        have Hlv := Lib.hid hlv
        clear hsk hlv
        by_cases hn : 0 < n
        · rcases takeFrom_pos (fs.take k) n hn with he | ⟨m, he⟩
          · have e1 := Lib.hid (show takeFrom (fs.take (k + 1)) n = [f] by rw [htk.out]; exact takeFrom_first _ _ _ Hlv.out hn hn3 he)
            rw [he] at hown ⊢
            clear he hm
            simp only [List.length_nil] at hown ⊢
            go_wp2_with (at_builtin; refine wpList_append_one rfl (.tmp 59) (.tmp 61) _ rfl (w.heap.size + 2) _ i0 _ 6 64 Try.underlying22 hi0 hz0 hz1 hz2 rfl (by decide) (wr.alloc _) #[.int .i64 f.num, .int .i64 f.level, .string f.first, .string f.last, .int .i64 f.count, .int .i64 f.size] _ 0 _ rfl (hown.alloc _) _ (by simp) rfl rfl (by simp [Value.oneCell']) (by simp only [maxLen]; omega) (by simp; omega) ?_; intro v' w' hown' hb' hz'; obtain ⟨A2, c2, rfl, -⟩ := reads_own hown'; have hqW2 := Lib.hid (hqW.out.step (hb' (w.heap.size + 2) _ (Nat.le_refl _) (Below.refl _ _))))
            go_roundw
            case rel => exact ⟨k + 1, A2, c2, by omega, by go_num, by rw [e1.out]; rfl, by rw [e1.out]; simpa [cellsOf, File.cells] using hown', hqW2.out⟩
            case measure => simp [intOf]; omega
          · have e1 := Lib.hid (show takeFrom (fs.take (k + 1)) n = [if f.num < m.num then f else m] by rw [htk.out]; exact takeFrom_next _ _ _ _ Hlv.out hn hn3 he)
            rw [he] at hown ⊢
            clear he hm
            simp only [List.length_singleton] at hown ⊢
            rcases hown.2 with ⟨-, h0⟩ | ⟨g, cap', cur, hv, hgb, hgg, hc1, hc2, hcs, hct⟩
            · omega
            · injection hv with hvA _ hvc
              subst hvA
              subst hvc
              have hgl : g < wr.heap.size := (Array.getElem?_eq_some_iff.1 hgg).1
              have m0 : wr.cell? ⟨g, 0, none⟩ = some (.int .i64 m.num) := by
                have := hown.cells (g := g) rfl 0 (.int .i64 m.num) (by simp [cellsOf, File.cells])
                simpa [Addr.add] using this
              have hggW := Lib.hid ((Below.heap_alloc wr (.cells #[.int .i64 f.num, .int .i64 f.level, .string f.first, .string f.last, .int .i64 f.count, .int .i64 f.size] 47) _ hgl).trans hgg)
              have hone : (0 : Int) < ((1 : Nat) : Int) := by omega
              have Hown := Lib.hid hown
              have Hct := Lib.hid hct
              clear hown hct hgg
              by_cases hlt2 : f.num < m.num
              · have e2 := Lib.hid (show (if f.num < m.num then f else m) = f from if_pos hlt2)
                go_wp2_with fail
                go_quiet (fail)
                have hgd := hggW.out
                have hgdn : ∀ nq, ((wr.alloc (.cells #[.int .i64 f.num, .int .i64 f.level, .string f.first, .string f.last, .int .i64 f.count, .int .i64 f.size] 47)).drewN nq).heap[g]? = _ := fun nq => hgd
                go_wp2_with (refine wpList_store_row rfl _ (.tmp 58) (.tmp 57) rfl rfl g 0 rfl #[.int .i64 f.num, .int .i64 f.level, .string f.first, .string f.last, .int .i64 f.count, .int .i64 f.size] rfl i0 hi0 hz1 (by simp [Value.oneCell']) _ _ (hgdn _) (by simp; omega) ?_; intro w3 hg3 hgr3 hz3)
                go_roundw
                case rel =>
                  refine ⟨k + 1, _, c', by omega, by go_num, by rw [e1.out]; rfl, ?_, hqW.out.step (only_to_below (only_drewN' hgr3) hgb (by simp; omega))⟩
                  rw [e1.out, e2.out]
                  simpa [cellsOf, File.cells] using own_set0 hgb hcs hc1 hc2 rfl hg3
                case measure => simp [intOf]; omega
              · have e2 := Lib.hid (show (if f.num < m.num then f else m) = m from if_neg hlt2)
                go_wp2_with fail
                go_quiet (fail)
                go_wp2_with fail
                go_roundw
                case rel => exact ⟨k + 1, _, c', by omega, by go_num, by rw [e1.out]; rfl, by rw [e1.out, e2.out]; exact own_drewN (Hown.out.alloc _) _, hqW.out.step ((Below.refl _ _).drewN _)⟩
                case measure => simp [intOf]; omega
        · have e1 := Lib.hid (show takeFrom (fs.take (k + 1)) n = takeFrom (fs.take k) n ++ [f] by rw [htk.out]; exact takeFrom_zero _ _ _ Hlv.out hn0 (by omega))
          go_wp2_with (at_builtin; refine wpList_append_one rfl (.tmp 59) (.tmp 61) _ rfl (w.heap.size + 2) _ i0 _ 6 64 Try.underlying22 hi0 hz0 hz1 hz2 rfl (by decide) (wr.alloc _) #[.int .i64 f.num, .int .i64 f.level, .string f.first, .string f.last, .int .i64 f.count, .int .i64 f.size] _ _ _ rfl (hown.alloc _) _ (by simp) rfl rfl (by simp [Value.oneCell']) (by simp only [maxLen]; omega) (by simp; omega) ?_; intro v' w' hown' hb' hz'; obtain ⟨A2, c2, rfl, -⟩ := reads_own hown'; have hqW2 := Lib.hid (hqW.out.step (hb' (w.heap.size + 2) _ (Nat.le_refl _) (Below.refl _ _))))
          go_roundw
          case rel => exact ⟨k + 1, A2, c2, by omega, by go_num, by rw [e1.out, List.length_append]; rfl, by rw [e1.out, List.length_append, cellsOf_snoc]; exact hown', hqW2.out⟩
          case measure => simp [intOf]; omega
    · obtain rfl : k = len := by omega
      have hall := Lib.hid (show fs.take k = fs from List.take_of_length_le (by rw [Hlf.out]; omega))
      rw [hall.out] at hown ⊢
      obtain ⟨fr, hfr⟩ : ∃ fr, fr = takeFrom fs n := ⟨_, rfl⟩
      have hfl : fr.length ≤ k := by rw [hfr, ← Hlf.out]; exact takeFrom_len _ _
      rw [← hfr] at hown ⊢
      obtain ⟨m, hm⟩ : ∃ m, m = fr.length := ⟨_, rfl⟩
      rw [← hm] at hown hfl ⊢
      have Hfr := Lib.hid hfr
      have Hm := Lib.hid hm
      obtain ⟨y0, y1, y2, y3⟩ := row4 Hq.out.tsk
      have hw2 : w.heap.size + 1 < wr.heap.size := by omega
      clear hfr hm
      rcases HT.out with ⟨hnil, hok, htv⟩ | ⟨hne, hok, Aa, ca, Ab, cb, htv, hra, hrb⟩
      · obtain rfl : m = 0 := by rw [Hm.out, Hfr.out, hnil]; rfl
        rw [htv] at Htv
        obtain ⟨rfl, rfl, rfl, rfl⟩ : t0 = .int .i64 0 ∧ t1 = .slice none 0 0 ∧ t2 = .slice none 0 0 ∧ t3 = .bool false := by
          have := Htv.out
          simp only [Array.mk.injEq, List.cons.injEq, and_true] at this
          exact ⟨this.1.symm, this.2.1.symm, this.2.2.1.symm, this.2.2.2.symm⟩
        subst hok
        clear hnil htv hown
        go_wp2_with fail
        go_ret
        exact ⟨rfl, hb⟩
      · obtain ⟨q, hq⟩ : ∃ q, q = (takeInto fs n).length := ⟨_, rfl⟩
        have hql : q ≤ k := by rw [hq, ← Hlf.out]; exact takeInto_len _ _
        obtain ⟨be, hbe⟩ : ∃ be, be = (takeInto fs n).isEmpty := ⟨_, rfl⟩
        have hqe : ((q : Int) == 0) = be := by
          rw [hq, hbe]
          cases takeInto fs n with
          | nil => rfl
          | cons x l => simp; omega
        rw [← hq, ← hbe, ← Hfr.out, ← Hm.out] at htv
        rw [← hq] at hrb
        rw [← Hfr.out, ← Hm.out] at hra
        rw [htv] at Htv
        obtain ⟨rfl, rfl, rfl, rfl⟩ : t0 = .int .i64 n ∧ t1 = .slice Aa m ca ∧ t2 = .slice Ab q cb ∧ t3 = .bool (decide (0 < n) && be) := by
          have := Htv.out
          simp only [Array.mk.injEq, List.cons.injEq, and_true] at this
          exact ⟨this.1.symm, this.2.1.symm, this.2.2.1.symm, this.2.2.2.symm⟩
        subst hok
        obtain ⟨f0, r, hf0⟩ : ∃ f0 r, fr = f0 :: r := by
          rw [Hfr.out]
          cases h : takeFrom fs n with
          | nil => exact absurd h hne
          | cons f0 r => exact ⟨f0, r, rfl⟩
        have hm1 : 1 ≤ m := by rw [Hm.out, hf0]; simp
        have hm0 : ((m : Int) == 0) = false := by simp; omega
        have hrF := Reads.of_own hown
        have Hf0 := Lib.hid hf0
        have Hra := Lib.hid hra
        have Hrb := Lib.hid hrb
        have Hqn := Lib.hid hq
        have Hbe := Lib.hid hbe
        have Hqe := Lib.hid hqe
        obtain ⟨ad, f, rfl, hbl, hf, c0, c1, c2, c3, c4, c5⟩ := hrF.file (Below.refl _ wr) (Nat.le_refl _) (show 0 < m by omega)
        obtain rfl : f = f0 := by rw [hf0] at hf; simpa using hf.symm
        have hmi : (0 : Int) < (m : Int) := by omega
        simp only [Nat.zero_mul, Addr.add, if_true] at c0 c1 c2 c3 c4 c5
        clear hf0 hra hrb hq hbe hqe hf htv hne hown
        go_wp2_with fail
        go_quiet (fail)
        go_wp2_with fail
        clear c0 c1 c2 c3 c4 c5 y0 y1 y2 y3 x3
        obtain ⟨wo, rfl⟩ : ∃ wo : World, wo = wr := ⟨_, rfl⟩
        go_loopw [12, 13, 14] (fun u v i wr => ∃ k' : Nat, 1 ≤ k' ∧ k' ≤ m ∧ i = .int .i64 k' ∧ u = .string (loOf f (fr.take k')) ∧ v = .string (hiOf f (fr.take k')) ∧ Below wo.heap.size wo wr)
          (fun _ _ i _ => m - (intOf i).toNat)
        case atStart =>
          refine ⟨1, Nat.le_refl _, hm1, by go_num, ?_, ?_, (Below.refl _ _).drewN _⟩
          · rw [Hf0.out]; show Value.string _ = .string (Lib.minS f.first f.first); rw [minS_less, ite_self]
          · rw [Hf0.out]; show Value.string _ = .string (Lib.maxS f.last f.last); rw [maxS_less, ite_self]
        case round =>
          obtain ⟨k', hk1, hk2, rfl, rfl, rfl, hb2⟩ := hrel
          by_cases hlt' : k' < m
          · obtain ⟨ad', f2, had, -, hf2, c0, c1, c2, c3, c4, c5⟩ := hrF.file hb2 (Nat.le_refl _) hlt'
            injection had with had
            subst had
            have hlo := Lib.hid (show loOf f (fr.take (k' + 1)) = if Op.bytesLess f2.first.toList (loOf f (fr.take k')).toList = true then f2.first else loOf f (fr.take k') by rw [List.take_add_one, hf2]; show loOf f (_ ++ [f2]) = _; rw [loOf_snoc, minS_less])
            have hhi := Lib.hid (show hiOf f (fr.take (k' + 1)) = if (!Op.bytesLess f2.last.toList (hiOf f (fr.take k')).toList && !(f2.last.toList == (hiOf f (fr.take k')).toList)) = true then f2.last else hiOf f (fr.take k') by rw [List.take_add_one, hf2]; show hiOf f (_ ++ [f2]) = _; rw [hiOf_snoc, maxS_less])
            clear hf2
            obtain ⟨lo, hlo'⟩ : ∃ lo, lo = loOf f (fr.take k') := ⟨_, rfl⟩
            obtain ⟨hi, hhi'⟩ : ∃ hi, hi = hiOf f (fr.take k') := ⟨_, rfl⟩
            rw [← hlo'] at hlo ⊢
            rw [← hhi'] at hhi ⊢
            clear hlo' hhi'
            cases h1 : Op.bytesLess f2.first.toList lo.toList <;> cases h2 : (!Op.bytesLess f2.last.toList hi.toList && !(f2.last.toList == hi.toList))
            all_goals
              have hlo2 := hlo.out
              have hhi2 := hhi.out
              rw [h1] at hlo2
              rw [h2] at hhi2
              simp only [↓reduceIte, Bool.false_eq_true] at hlo2 hhi2
              have Hlo2 := Lib.hid hlo2
              have Hhi2 := Lib.hid hhi2
              clear hlo2 hhi2
              go_wp2_with fail
              go_roundw
            all_goals first
              | (case rel => exact ⟨k' + 1, by omega, by omega, by go_num, by rw [Hlo2.out], by rw [Hhi2.out], hb2⟩)
              | (case measure => simp [intOf]; omega)
          · obtain rfl : k' = m := by omega
            have hfrl := Lib.hid (show fr.take k' = f :: r by rw [List.take_of_length_le (by rw [Hm.out]; exact Nat.le_refl _), Hf0.out])
            rw [hfrl.out]
            have hinto : withinS fs (n + 1) (loOf f (f :: r)) (hiOf f (f :: r)) = takeInto fs n := by unfold takeInto; rw [← Hfr.out, Hf0.out]
            have Hinto := Lib.hid hinto
            obtain ⟨lo, hlo⟩ : ∃ lo, lo = loOf f (f :: r) := ⟨_, rfl⟩
            obtain ⟨hi, hhi⟩ : ∃ hi, hi = hiOf f (f :: r) := ⟨_, rfl⟩
            have Hlo := Lib.hid hlo
            have Hhi := Lib.hid hhi
            have hn3 : 0 ≤ n ∧ n ≤ 3 := by
              have := Hf0.out
              rw [Hfr.out] at this
              unfold takeFrom at this
              split at this
              · cases this
              · omega
            rw [← hlo, ← hhi]
            have hbB := hb.trans (hb2.mono (by omega))
            have hqE := Lib.hid (Hq.out.step (hb2.mono (by omega)))
            obtain ⟨x0, x1, x2, x3⟩ := row4 hqE.out.box
            have hrA := Hr.out.below (hbB.mono hB)
            have hrE := hrF.below hb2
            have hz2 := hb2.size
            clear hinto hlo hhi hb2 hrF
            go_wp2_with fail
            refine (withinL_any _ A k cap fs lg nx sq (n + 1) lo hi _ hlen hrA (by omega)).mono ?_
            rw [inL_within, show withinS fs (n + 1) lo hi = takeInto fs n by rw [Hlo.out, Hhi.out]; exact Hinto.out, ← Hqn.out]
            rintro e w3 ⟨v3, rfl, hown3, hb3⟩
            obtain ⟨A3, c3, rfl, hr3⟩ := reads_own hown3
            have hqE3 := Lib.hid (hqE.out.step (hb3.mono (by omega)))
            have hrE3 := hrE.below (hb3.mono hz2)
            have hz3 := hb3.size
            clear x0 x1 x2 x3 hown3 hb3 hrA hrE
            go_wp2_with fail
            refine (version_any _ _ k' _ fr 0 0 0 _ (by omega) hrE3 (by omega)).mono ?_
            rintro e w4 ⟨A4, c4, rfl, hown4, hb4⟩
            have hqE4 := Lib.hid (hqE3.out.step (hb4.mono (by omega)))
            have hrE4 := hrE3.below (hb4.mono (by omega))
            have hr34 := hr3.below hb4
            have hr4 := Reads.of_own hown4
            rw [Hf0.out] at hr4
            have hz4 := hb4.size
            clear hown4 hb4 hr3 hrE3
            have hfld := fun w => field3 A4 k' c4 w
            go_wp2_with fail
            refine (span_any _ A4 k' c4 f r _ (by omega) hr4 (Nat.le_refl _)).mono ?_
            rw [← Hlo.out, ← Hhi.out]
            rintro e w5 ⟨rfl, hb5⟩
            have hqE5 := Lib.hid (hqE4.out.step (hb5.mono (by omega)))
            have hrE5 := hrE4.below (hb5.mono (by omega))
            have hr35 := hr34.below (hb5.mono hz4)
            have hz5 := hb5.size
            have hra5 := Hra.out.below (hqE5.out.below)
            have hrb5 := Hrb.out.below (hqE5.out.below)
            obtain ⟨z0, z1, z2, z3⟩ := row4 hqE5.out.tsk
            have hw25 := hqE5.out.size
            clear hb5 hr4 hrE4 hr34
            go_wp2_with fail
            refine (same_eq (wo.heap.size) _ _ k' _ _ fr _ (by omega) (hra5.more (by omega)) hrE5 (by omega)).mono ?_
            rintro e w6 ⟨rfl, hb6⟩
            have hqE6 := Lib.hid (hqE5.out.step (hb6.mono (by omega)))
            have hr36 := hr35.below (hb6.mono (by omega))
            have hrb6 := Hrb.out.below (hqE6.out.below)
            obtain ⟨u0, u1, u2, u3⟩ := row4 hqE6.out.tsk
            have hw26 := hqE6.out.size
            have hz6 := hb6.size
            clear hb6 z0 z1 z2 z3 hra5 hrb5 hrE5 hr35
            go_wp2_with fail
            refine (same_eq (w3.heap.size) _ _ q _ _ (takeInto fs n) _ (by omega) (hrb6.more (by omega)) hr36 (by omega)).mono ?_
            rintro e w7 ⟨rfl, hb7⟩
            have hqE7 := Lib.hid (hqE6.out.step (hb7.mono (by omega)))
            obtain ⟨s0, s1, s2, s3⟩ := row4 hqE7.out.tsk
            have hw27 := hqE7.out.size
            have hqe' := Hqe.out
            clear hb7 u0 u1 u2 u3 hrb6 hr36
            by_cases hn : 0 < n
            · go_wp2_with fail
              go_ret
              exact ⟨by first | rfl | (simp; done) | (cases be <;> simp), hqE7.out.below⟩
            · go_wp2_with fail
              go_ret
              exact ⟨by first | rfl | (simp; done) | (cases be <;> simp), hqE7.out.below⟩
end Go.Proofs.Ytpbkbkgankplbaa
