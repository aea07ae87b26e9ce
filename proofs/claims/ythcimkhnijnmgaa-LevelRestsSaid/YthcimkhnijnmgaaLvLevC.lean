/-
  level.Sound, Take: whether a setting is sound; a level's task. Condition: the slices lie within reach, the numbers within 62 bits.
-/
import Derived.Test.YthcimkhnijnmgaaLvLevB
namespace Go.Proofs.Ythcimkhnijnmgaa.Lv
open Go.RowKit

theorem fitCfg_x (c : Cfg) (w : World) : Calls Try.prog 29 #[.agg #[.int .i64 c.zero, .int .i64 c.base, .int .i64 c.times, .int .i64 c.table]] w fun e w' =>
    e = .returned (.agg #[.int .i64 c.fit.zero, .int .i64 c.fit.base, .int .i64 c.fit.times, .int .i64 c.fit.table]) ∧ Below w.heap.size w w' := fitCfg_any c w
def Cfg.same (a b : Cfg) : Bool := a.zero == b.zero && a.base == b.base && a.times == b.times && a.table == b.table

theorem cfg_step {w W w' : World} {g : Nat} {x0 x1 x2 x3 : Value} (h : (W.cell? ⟨g, 0, none⟩ = some x0 ∧ W.cell? ⟨g, 1, none⟩ = some x1 ∧ W.cell? ⟨g, 2, none⟩ = some x2 ∧ W.cell? ⟨g, 3, none⟩ = some x3 ∧ g < W.heap.size) ∧ Below g w W) (hb : Below W.heap.size W w') :
    (w'.cell? ⟨g, 0, none⟩ = some x0 ∧ w'.cell? ⟨g, 1, none⟩ = some x1 ∧ w'.cell? ⟨g, 2, none⟩ = some x2 ∧ w'.cell? ⟨g, 3, none⟩ = some x3 ∧ g < w'.heap.size) ∧ Below g w w' := by
  obtain ⟨⟨h0, h1, h2, h3, h4⟩, h5⟩ := h
  exact ⟨⟨(hb.cell (p := ⟨g, 0, none⟩) h4).trans h0, (hb.cell (p := ⟨g, 1, none⟩) h4).trans h1, (hb.cell (p := ⟨g, 2, none⟩) h4).trans h2, (hb.cell (p := ⟨g, 3, none⟩) h4).trans h3, Nat.lt_of_lt_of_le h4 hb.size⟩, h5.trans (hb.mono (Nat.le_of_lt h4))⟩
theorem run_eql_cfg (a b : Cfg) (W : World) : (binOp .eql 50 (.agg #[.int .i64 a.zero, .int .i64 a.base, .int .i64 a.times, .int .i64 a.table]) (.agg #[.int .i64 b.zero, .int .i64 b.base, .int .i64 b.times, .int .i64 b.table])).run Try.prog W = .ok (.bool (a.same b)) W := by
  unfold Cfg.same
  cases h0 : a.zero == b.zero <;> cases h1 : a.base == b.base <;> cases h2 : a.times == b.times <;> cases h3 : a.table == b.table <;> go_simp
theorem results_cell_tmp {fn : Func} {p q : Tmp} {ty : TypeId} (h : fn.results = #[.cell p ty, .tmp q]) (tmps : Array Value) (P : Program) (w : World) (g : Nat) (t : TypeId) {cs : Array Value} {fr : Nat × Nat} {d : TypeDesc}
    (hp : tmps.getD p undef = .pointer (some ⟨g, 0, none⟩)) (hg : w.heap[g]? = some (.cells cs t fr)) (hd : (match d with | .struct _ | .array _ _ => true | _ => false) = true)
    (hu : P.underlying ty = some d) (hi : (P.info? ty).map (·.size) = some cs.size) :
    (results fn tmps).run P w = .ok (.tuple #[.agg cs, tmps.getD q undef]) w := by
  have hp' : tmps[p]?.getD undef = .pointer (some ⟨g, 0, none⟩) := by simpa using hp
  have e := run_loadVar_row (P := P) w g t ty cs fr d hg hu (by cases d <;> first | rfl | (simp at hd)) hi
  simp [results, h, hp', asAddr, e]
theorem infoTask : (Try.prog.info? 33).map (fun i => (i.zero, i.size, i.bytes)) = some (some (.agg #[.int .i64 0, .slice none 0 0, .slice none 0 0, .bool false]), 4, 64) := by kernel_rfl
def takeFrom (fs : List File) (n : Int) : List File :=
  if n < 0 ∨ 4 ≤ n then [] else
    match fs.filter (·.level == n) with
    | [] => []
    | f :: r => if 0 < n then [minBy f r] else f :: r
def takeInto (fs : List File) (n : Int) : List File :=
  match takeFrom fs n with
  | [] => []
  | f :: r => withinS fs (n + 1) (loOf f (f :: r)) (hiOf f (f :: r))
def Took (base : Nat) (fs : List File) (n : Int) (e : Ending) (w' : World) : Prop :=
  (takeFrom fs n = [] ∧ e = .returned (.tuple #[.agg #[.int .i64 0, .slice none 0 0, .slice none 0 0, .bool false], .bool false])) ∨
  (takeFrom fs n ≠ [] ∧ ∃ va vb, e = .returned (.tuple #[.agg #[.int .i64 n, va, vb, .bool (decide (0 < n) && (takeInto fs n).isEmpty)], .bool true]) ∧
    w'.ownsRow base 3 1 va (takeFrom fs n).length (numsOf (takeFrom fs n)) ∧ w'.ownsRow base 3 1 vb (takeInto fs n).length (numsOf (takeInto fs n)))


/-- What the walk of Take keeps: the boxed version, the result's room, and what lay below. -/
structure TS (w W : World) (vs : Array Value) : Prop where
  box : W.heap[w.heap.size]? = some (.cells vs 29 (0, 0))
  res : W.heap[w.heap.size + 1]? = some (.cells #[.int .i64 0, .slice none 0 0, .slice none 0 0, .bool false] 33 (0, 0))
  size : w.heap.size + 1 < W.heap.size
  below : Below w.heap.size w W
theorem TS.step {w W W' : World} {vs : Array Value} (h : TS w W vs) (hb : Below W.heap.size W W') : TS w W' vs :=
  ⟨(hb.block _ (by have := h.size; omega)).trans h.box, (hb.block _ h.size).trans h.res, Nat.lt_of_lt_of_le h.size hb.size, h.below.trans (hb.mono (by have := h.size; omega))⟩
theorem TS.start {w W' : World} {vs : Array Value} (hb : Below ((w.alloc (.cells vs 29)).alloc (.cells #[.int .i64 0, .slice none 0 0, .slice none 0 0, .bool false] 33)).heap.size ((w.alloc (.cells vs 29)).alloc (.cells #[.int .i64 0, .slice none 0 0, .slice none 0 0, .bool false] 33)) W') : TS w W' vs :=
  ⟨(hb.block _ (by simp; omega)).trans (heap_alloc2_old w _ _), (hb.block _ (by simp)).trans (heap_alloc2_new w _ _), by have := hb.size; simp at this; omega, (((Below.refl w.heap.size w).alloc (Nat.le_refl _) _).alloc (by simp) _).trans (hb.mono (by simp; omega))⟩

set_option maxHeartbeats 400000 in
theorem take_none (B : Nat) (A : Option Addr) (len cap : Nat) (fs : List File) (lg nx sq n : Int) (w : World) (hlen : len * 64 ≤ 140737488351232) (hr : Reads w B 6 A len (cellsOf fs)) (hB : B ≤ w.heap.size)
    (hn : n < 0 ∨ (0 ≤ n ∧ 4 ≤ n) ∨ (0 ≤ n ∧ n < 4 ∧ fs.filter (·.level == n) = [])) :
    Calls Try.prog 7 #[.agg #[.int .i64 lg, .int .i64 nx, .int .i64 sq, .slice A len cap], .int .i64 n] w fun e w' =>
      e = .returned (.tuple #[.agg #[.int .i64 0, .slice none 0 0, .slice none 0 0, .bool false], .bool false]) ∧ Below w.heap.size w w' := by
  have Hr := Lib.hid hr
  have Hn := Lib.hid hn
  clear hr hn
  go_enter Try.func7, Try.ntmps7
  go_wp2_with fail
  refine (level_any A len cap fs lg nx sq n _ hlen (((Hr.out.alloc hB _).alloc (by simp; omega) _).more (by simp; omega))).mono ?_
  rintro e w1 ⟨v, rfl, hown, hb1⟩
  obtain ⟨A1, c1, rfl, hr1⟩ := reads_own hown
  have ts1 := TS.start hb1
  have hg := ts1.res
  have HT := Lib.hid ts1
  clear hown hr1 hb1 ts1
  obtain ⟨i0, hi0, hz0, hz1, _⟩ := info_parts infoTask
  rcases Hn.out with h | ⟨h, h'⟩ | ⟨h, h', h2⟩
  case' inr.inr =>
    have hl0 : (((fs.filter (·.level == n)).length : Int) == 0) = true := by rw [h2]; rfl
    clear h2
  all_goals
    go_wp2_with (refine wpList_store_row rfl _ (.tmp 4) (.tmp 25) rfl rfl (w.heap.size + 1) 0 rfl #[.int .i64 0, .slice none 0 0, .slice none 0 0, .bool false] rfl i0 hi0 hz1 (by simp [Value.oneCell']) _ _ hg (by simp) ?_; intro w3 hg3 hgr3 hz3)
    have hT := HT.out
    exact bodyPost_ret (v := .tuple #[.agg #[.int .i64 0, .slice none 0 0, .slice none 0 0, .bool false], .bool false]) (by rw [results_cell_tmp rfl _ _ _ _ _ rfl hg3 rfl Try.underlying33 (by rw [hi0]; simp [hz1])]; rfl) rfl ⟨rfl, hT.below.grown hgr3 (by have := hT.size; omega) (fun k hk => by injection hk with hk; omega)⟩

set_option maxHeartbeats 1000000 in
set_option maxRecDepth 100000 in
theorem take_zero (B : Nat) (A : Option Addr) (len cap : Nat) (fs : List File) (lg nx sq n : Int) (w : World) (hlen : len * 64 ≤ 140737488351232) (hr : Reads w B 6 A len (cellsOf fs)) (hB : B ≤ w.heap.size)
    (h0 : 0 ≤ n) (h1 : n ≤ 0) (f : File) (r : List File) (hf : fs.filter (·.level == n) = f :: r) :
    Calls Try.prog 7 #[.agg #[.int .i64 lg, .int .i64 nx, .int .i64 sq, .slice A len cap], .int .i64 n] w fun e w' => Took w.heap.size fs n e w' ∧ Below w.heap.size w w' := by
  have hfrom := Lib.hid (show takeFrom fs n = f :: r by unfold takeFrom; rw [if_neg (by omega), hf]; simp only; rw [if_neg (by omega)])
  have hlf := length_of_cells hr
  have Hlf := Lib.hid hlf
  have hfl := List.length_filter_le (fun x : File => x.level == n) fs
  rw [hf] at hfl
  have Hr := Lib.hid hr
  have Hf := Lib.hid hf
  rw [hlf] at hfl
  clear hr hf hlf
  go_enter Try.func7, Try.ntmps7
  go_wp2_with fail
  refine (level_any A len cap fs lg nx sq n _ hlen (((Hr.out.alloc hB _).alloc (by simp; omega) _).more (by simp; omega))).mono ?_
  rw [Hf.out]
  obtain ⟨m, hm⟩ : ∃ m, (f :: r).length = m := ⟨_, rfl⟩
  rw [hm] at hfl ⊢
  have hm1 : 1 ≤ m := by rw [← hm]; simp
  have Hm := Lib.hid hm
  clear hm
  rintro e w1 ⟨v, rfl, hown, hb1⟩
  obtain ⟨A1, c1, rfl, hr1⟩ := reads_own hown
  have ts1 := TS.start hb1
  have hBW : B ≤ w1.heap.size := by have := ts1.size; omega
  have HRA := Lib.hid ((Hr.out.below (ts1.below.mono hB)))
  have HR := Lib.hid hr1
  have hl0 : ((m : Int) == 0) = false := by simp; omega
  clear hown hr1 hb1
  go_wp2_with fail
  refine (span_any _ _ _ _ f r _ (by omega) HR.out (by omega)).mono ?_
  rintro e w2 ⟨rfl, hb2⟩
  have ts2 := TS.step ts1 hb2
  have hrA2 := (HRA.out).below (hb2.mono hBW)
  have hrF2 := (HR.out).below (hb2.mono (Nat.le_refl _))
  obtain ⟨b0, b1, b2, b3⟩ := row4 ts2.box
  have z2 := hb2.size
  have zz := ts2.size
  clear hb2 ts1
  go_wp2_with fail
  refine (within_any _ A len cap fs lg nx sq (n + 1) _ _ _ hlen hrA2 (by omega)).mono ?_
  rintro e w3 ⟨v3, rfl, hown3, hb3⟩
  have hle : (withinS fs (n + 1) (loOf f (f :: r)) (hiOf f (f :: r))).length ≤ len := by rw [← Hlf.out]; exact Nat.le_trans (List.length_filter_le _ _) (List.length_filter_le _ _)
  obtain ⟨q, hq⟩ : ∃ q, (withinS fs (n + 1) (loOf f (f :: r)) (hiOf f (f :: r))).length = q := ⟨_, rfl⟩
  rw [hq] at hown3 hle
  have Hq := Lib.hid hq
  clear hq
  have ts3 := TS.step ts2 hb3
  have hrF3 := hrF2.below (hb3.mono z2)
  have z3 := hb3.size
  obtain ⟨A3, c3, rfl, hr3⟩ := reads_own hown3
  clear hb3 ts2 b0 b1 b2 b3 hrF2 hrA2 hown3
  go_wp2_with fail
  refine (numbers_any _ _ _ _ _ _ (by omega) hrF3 (by omega)).mono ?_
  rintro e w4 ⟨va, rfl, howna, hb4⟩
  have ts4 := TS.step ts3 hb4
  have z4 := hb4.size
  have hr4 := hr3.below hb4
  obtain ⟨Aa, ca, rfl, -⟩ := reads_own howna
  clear hb4 ts3 hr3 hrF3
  go_wp2_with fail
  refine (numbers_any _ _ _ _ _ _ (by omega) hr4 (by omega)).mono ?_
  rintro e w5 ⟨vb, rfl, hownb, hb5⟩
  have ts5 := TS.step ts4 hb5
  have howna5 := own_below howna hb5
  obtain ⟨Ab, cb, rfl, -⟩ := reads_own hownb
  have hg := ts5.res
  have HT := Lib.hid ts5
  have HA := Lib.hid (own_base howna5 (show w.heap.size ≤ _ by omega))
  have HB := Lib.hid (own_base hownb (show w.heap.size ≤ _ by omega))
  clear hb5 ts4 ts5 hr4 howna howna5 hownb
  obtain ⟨i0, hi0, hz0, hz1, _⟩ := info_parts infoTask
  go_wp2_with (refine wpList_store_row rfl _ (.tmp 4) (.tmp 55) rfl rfl (w.heap.size + 1) 0 rfl #[.int .i64 n, .slice Aa m ca, .slice Ab q cb, .bool false] rfl i0 hi0 hz1 (by simp [Value.oneCell']) _ _ hg (by simp) ?_; intro w6 hg6 hgr6 hz6)
  have hT := HT.out
  refine bodyPost_ret (v := .tuple #[.agg #[.int .i64 n, .slice Aa m ca, .slice Ab q cb, .bool false], .bool true]) (by rw [results_cell_tmp rfl _ _ _ _ _ rfl hg6 rfl Try.underlying33 (by rw [hi0]; simp [hz1])]; rfl) rfl ⟨.inr ⟨by rw [hfrom.out]; simp, .slice Aa m ca, .slice Ab q cb, ?_, ?_, ?_⟩, hT.below.grown hgr6 (by have := hT.size; omega) (fun k hk => by injection hk with hk; omega)⟩
  · rw [decide_eq_false (by omega), Bool.false_and]
  · rw [hfrom.out, Hm.out]
    exact HA.out.kept hgr6 (own_ne_blk HA.out hg (by decide))
  · rw [show takeInto fs n = withinS fs (n + 1) (loOf f (f :: r)) (hiOf f (f :: r)) by unfold takeInto; rw [hfrom.out], Hq.out]
    exact HB.out.kept hgr6 (own_ne_blk HB.out hg (by decide))

theorem minFunc_x (B : Nat) (A : Option Addr) (len cap : Nat) (f0 m : File) (fs : List File) (w : World) (hlen : len * 64 ≤ 140737488351232) (hr : Reads w B 6 A len (cellsOf (f0 :: fs))) (hB : B ≤ w.heap.size)
    (hnum : ∀ f ∈ f0 :: fs, 0 ≤ f.num ∧ f.num ≤ 4611686018427387904) (hm : minBy f0 fs = m) :
    Calls Try.prog 14 #[.slice A len cap, .func (.func 15) #[] #[]] w fun e w' =>
      e = .returned (.agg #[.int .i64 m.num, .int .i64 m.level, .string m.first, .string m.last, .int .i64 m.count, .int .i64 m.size]) ∧ Below w.heap.size w w' := by
  rw [← hm]
  exact minFunc_any B A len cap f0 fs w hlen hr hB hnum
theorem reads_one (w : World) (o : Obj) (f : File) : Reads ((w.alloc o).alloc (.cells #[.int .i64 f.num, .int .i64 f.level, .string f.first, .string f.last, .int .i64 f.count, .int .i64 f.size] 37))
    ((w.alloc o).alloc (.cells #[.int .i64 f.num, .int .i64 f.level, .string f.first, .string f.last, .int .i64 f.count, .int .i64 f.size] 37)).heap.size 6 (some ⟨w.heap.size + 1, 0, none⟩) 1 (cellsOf [f]) := by
  refine ⟨by simp [cellsOf, File.cells], fun _ => ⟨_, rfl, by simp, fun j u hu => ?_⟩⟩
  have hadd : (⟨w.heap.size + 1, 0, none⟩ : Addr).add j = ⟨w.heap.size + 1, j, none⟩ := by unfold Addr.add; split <;> simp_all
  rw [hadd, cell_of_row _ _ _ _ _ _ (heap_alloc2_new w _ _), ← hu]
  simp [cellsOf, File.cells]

set_option maxHeartbeats 1000000 in
set_option maxRecDepth 100000 in
theorem take_pos (B : Nat) (A : Option Addr) (len cap : Nat) (fs : List File) (lg nx sq n : Int) (w : World) (hlen : len * 64 ≤ 140737488351232) (hr : Reads w B 6 A len (cellsOf fs)) (hB : B ≤ w.heap.size)
    (hnum : ∀ f ∈ fs, 0 ≤ f.num ∧ f.num ≤ 4611686018427387904)
    (h0 : 0 < n) (h1 : n < 4) (f0 : File) (r0 : List File) (hf : fs.filter (·.level == n) = f0 :: r0) :
    Calls Try.prog 7 #[.agg #[.int .i64 lg, .int .i64 nx, .int .i64 sq, .slice A len cap], .int .i64 n] w fun e w' => Took w.heap.size fs n e w' ∧ Below w.heap.size w w' := by
  have hnum' := Lib.hid (show ∀ f ∈ f0 :: r0, 0 ≤ f.num ∧ f.num ≤ 4611686018427387904 from fun f hx => hnum f (List.mem_filter.1 (by rw [hf]; exact hx)).1)
  clear hnum
  obtain ⟨f, hmn⟩ : ∃ f, minBy f0 r0 = f := ⟨_, rfl⟩
  obtain ⟨r, hrn⟩ : ∃ r : List File, r = [] := ⟨_, rfl⟩
  have hfrom := Lib.hid (show takeFrom fs n = f :: r by unfold takeFrom; rw [if_neg (by omega), hf, hrn]; simp only; rw [if_pos (by omega), hmn])
  have Hmn := Lib.hid hmn
  have Hrn := Lib.hid hrn
  have hlf := length_of_cells hr
  have Hlf := Lib.hid hlf
  have hfl := List.length_filter_le (fun x : File => x.level == n) fs
  rw [hf] at hfl
  have Hr := Lib.hid hr
  have Hf := Lib.hid hf
  rw [hlf] at hfl
  clear hr hf hlf hmn hrn
  go_enter Try.func7, Try.ntmps7
  go_wp2_with fail
  refine (level_any A len cap fs lg nx sq n _ hlen (((Hr.out.alloc hB _).alloc (by simp; omega) _).more (by simp; omega))).mono ?_
  rw [Hf.out]
  obtain ⟨m0, hm⟩ : ∃ m0, (f0 :: r0).length = m0 := ⟨_, rfl⟩
  rw [hm] at hfl ⊢
  have hm1 : 1 ≤ m0 := by rw [← hm]; simp
  clear hm
  rintro e w0 ⟨v, rfl, hown, hb1⟩
  obtain ⟨A0, c0, rfl, hr1⟩ := reads_own hown
  have ts0 := TS.start hb1
  have hHR0 := Lib.hid hr1
  have hl0 : ((m0 : Int) == 0) = false := by simp; omega
  clear hown hr1 hb1
  go_wp2_with fail
  refine (minFunc_x _ _ _ _ f0 f r0 _ (by omega) hHR0.out (Nat.le_refl _) hnum'.out Hmn.out).mono ?_
  rintro e wm ⟨rfl, hbm⟩
  have tsm := TS.step ts0 hbm
  have ts1 := TS.step tsm (((Below.refl _ wm).alloc (Nat.le_refl _) (.cells #[.int .i64 f.num, .int .i64 f.level, .string f.first, .string f.last, .int .i64 f.count, .int .i64 f.size] 37)).alloc (by simp) (.cells #[.int .i64 f.num, .int .i64 f.level, .string f.first, .string f.last, .int .i64 f.count, .int .i64 f.size] 37))
  have hBW : B ≤ ((wm.alloc (.cells #[.int .i64 f.num, .int .i64 f.level, .string f.first, .string f.last, .int .i64 f.count, .int .i64 f.size] 37)).alloc (.cells #[.int .i64 f.num, .int .i64 f.level, .string f.first, .string f.last, .int .i64 f.count, .int .i64 f.size] 37)).heap.size := by have := ts1.size; omega
  have HRA := Lib.hid ((Hr.out.below (ts1.below.mono hB)))
  have HR := Lib.hid (show Reads _ _ 6 _ 1 (cellsOf (f :: r)) by rw [Hrn.out]; exact reads_one wm (.cells #[.int .i64 f.num, .int .i64 f.level, .string f.first, .string f.last, .int .i64 f.count, .int .i64 f.size] 37) f)
  have Hm := Lib.hid (show (f :: r).length = 1 by rw [Hrn.out]; rfl)
  have zm := tsm.size
  clear hbm ts0 tsm hHR0
  go_wp2_with fail
  refine (span_any _ _ _ _ f r _ (by omega) HR.out (by omega)).mono ?_
  rintro e w2 ⟨rfl, hb2⟩
  have ts2 := TS.step ts1 hb2
  have hrA2 := (HRA.out).below (hb2.mono hBW)
  have hrF2 := (HR.out).below (hb2.mono (Nat.le_refl _))
  obtain ⟨b0, b1, b2, b3⟩ := row4 ts2.box
  have z2 := hb2.size
  have zz := ts2.size
  clear hb2 ts1
  go_wp2_with fail
  refine (within_any _ A len cap fs lg nx sq (n + 1) _ _ _ hlen hrA2 (by omega)).mono ?_
  rintro e w3 ⟨v3, rfl, hown3, hb3⟩
  have hle : (withinS fs (n + 1) (loOf f (f :: r)) (hiOf f (f :: r))).length ≤ len := by rw [← Hlf.out]; exact Nat.le_trans (List.length_filter_le _ _) (List.length_filter_le _ _)
  obtain ⟨q, hq⟩ : ∃ q, (withinS fs (n + 1) (loOf f (f :: r)) (hiOf f (f :: r))).length = q := ⟨_, rfl⟩
  rw [hq] at hown3 hle
  have Hq := Lib.hid hq
  clear hq
  have ts3 := TS.step ts2 hb3
  have hrF3 := hrF2.below (hb3.mono z2)
  have z3 := hb3.size
  obtain ⟨A3, c3, rfl, hr3⟩ := reads_own hown3
  clear hb3 ts2 b0 b1 b2 b3 hrF2 hrA2 hown3
  go_wp2_with fail
  refine (numbers_any _ _ _ _ _ _ (by omega) hrF3 (by omega)).mono ?_
  rintro e w4 ⟨va, rfl, howna, hb4⟩
  have ts4 := TS.step ts3 hb4
  have z4 := hb4.size
  have hr4 := hr3.below hb4
  obtain ⟨Aa, ca, rfl, -⟩ := reads_own howna
  clear hb4 ts3 hr3 hrF3
  go_wp2_with fail
  refine (numbers_any _ _ _ _ _ _ (by omega) hr4 (by omega)).mono ?_
  rintro e w5 ⟨vb, rfl, hownb, hb5⟩
  have ts5 := TS.step ts4 hb5
  have howna5 := own_below howna hb5
  obtain ⟨Ab, cb, rfl, -⟩ := reads_own hownb
  have hg := ts5.res
  have HT := Lib.hid ts5
  have HA := Lib.hid (own_base howna5 (show w.heap.size ≤ _ by omega))
  have HB := Lib.hid (own_base hownb (show w.heap.size ≤ _ by omega))
  clear hb5 ts4 ts5 hr4 howna howna5 hownb

  obtain ⟨i0, hi0, hz0, hz1, _⟩ := info_parts infoTask
  have hq0 : ((q : Int) == 0) = (takeInto fs n).isEmpty := by
    rw [show takeInto fs n = withinS fs (n + 1) (loOf f (f :: r)) (hiOf f (f :: r)) by unfold takeInto; rw [hfrom.out]]
    have := Hq.out
    cases hw : withinS fs (n + 1) (loOf f (f :: r)) (hiOf f (f :: r)) with
    | nil => rw [hw] at this; simp at this; subst this; rfl
    | cons x l => rw [hw] at this; simp at this; simp; omega
  have Hq0 := Lib.hid hq0
  clear hq0
  go_wp2_with (refine wpList_store_row rfl _ (.tmp 4) (.tmp 55) rfl rfl (w.heap.size + 1) 0 rfl #[.int .i64 n, .slice Aa 1 ca, .slice Ab q cb, .bool ((q : Int) == 0)] rfl i0 hi0 hz1 (by simp [Value.oneCell']) _ _ hg (by simp) ?_; intro w6 hg6 hgr6 hz6)
  have hT := HT.out
  refine bodyPost_ret (v := .tuple #[.agg #[.int .i64 n, .slice Aa 1 ca, .slice Ab q cb, .bool ((q : Int) == 0)], .bool true]) (by rw [results_cell_tmp rfl _ _ _ _ _ rfl hg6 rfl Try.underlying33 (by rw [hi0]; simp [hz1])]; rfl) rfl ⟨.inr ⟨by rw [hfrom.out]; simp, .slice Aa 1 ca, .slice Ab q cb, ?_, ?_, ?_⟩, hT.below.grown hgr6 (by have := hT.size; omega) (fun k hk => by injection hk with hk; omega)⟩
  · rw [decide_eq_true (by omega), Bool.true_and, Hq0.out]
  · rw [hfrom.out, Hm.out]
    exact HA.out.kept hgr6 (own_ne_blk HA.out hg (by decide))
  · rw [show takeInto fs n = withinS fs (n + 1) (loOf f (f :: r)) (hiOf f (f :: r)) by unfold takeInto; rw [hfrom.out], Hq.out]
    exact HB.out.kept hgr6 (own_ne_blk HB.out hg (by decide))

theorem take_any (B : Nat) (A : Option Addr) (len cap : Nat) (fs : List File) (lg nx sq n : Int) (w : World) (hlen : len * 64 ≤ 140737488351232) (hr : Reads w B 6 A len (cellsOf fs)) (hB : B ≤ w.heap.size)
    (hnum : ∀ f ∈ fs, 0 ≤ f.num ∧ f.num ≤ 4611686018427387904) :
    Calls Try.prog 7 #[.agg #[.int .i64 lg, .int .i64 nx, .int .i64 sq, .slice A len cap], .int .i64 n] w fun e w' => Took w.heap.size fs n e w' ∧ Below w.heap.size w w' := by
  by_cases h : n < 0 ∨ 4 ≤ n
  · refine (take_none B A len cap fs lg nx sq n w hlen hr hB (by omega)).mono ?_
    rintro e w' ⟨rfl, hb⟩
    exact ⟨.inl ⟨by unfold takeFrom; rw [if_pos h], rfl⟩, hb⟩
  · cases hf : fs.filter (·.level == n) with
    | nil =>
      refine (take_none B A len cap fs lg nx sq n w hlen hr hB (.inr (.inr ⟨by omega, by omega, hf⟩))).mono ?_
      rintro e w' ⟨rfl, hb⟩
      exact ⟨.inl ⟨by unfold takeFrom; rw [if_neg h, hf], rfl⟩, hb⟩
    | cons f r =>
      by_cases h0 : 0 < n
      · exact take_pos B A len cap fs lg nx sq n w hlen hr hB hnum h0 (by omega) f r hf
      · exact take_zero B A len cap fs lg nx sq n w hlen hr hB (by omega) (by omega) f r hf
end Go.Proofs.Ythcimkhnijnmgaa.Lv

