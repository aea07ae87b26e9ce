/-
  slices.IndexFunc, ContainsFunc, DeleteFunc, MinFunc at edit.File: whatever predicate, whatever slice within reach.
-/
import Derived.Test.YthcimkhnijnmgaaLvFile
import Derived.Deep.Light
namespace Go.Proofs.Ythcimkhnijnmgaa.Lv
open Go.RowKit

def File.agg (f : File) : Value := .agg #[.int .i64 f.num, .int .i64 f.level, .string f.first, .string f.last, .int .i64 f.count, .int .i64 f.size]
theorem File.oneCells (f : File) : ∀ u ∈ (#[Value.int .i64 f.num, .int .i64 f.level, .string f.first, .string f.last, .int .i64 f.count, .int .i64 f.size] : Array Value).toList, u.oneCell' = true := by simp [Value.oneCell']
/-- A function value that answers a predicate, whatever is made on the way. -/
def PredF (B : Nat) (w : World) (g : Nat) (cp : Array Value) (pr : File → Bool) : Prop :=
  (∀ args w, (callFunc g args).run Try.prog w = .ok (.enter g args) w) ∧ ∀ (f : File) (wr : World), Below B w wr → Calls Try.prog g (#[f.agg] ++ cp) wr fun e w' => e = .returned (.bool (pr f)) ∧ Below wr.heap.size wr w'

/-- The first place at which a predicate holds, or -1. -/
def idxOf {α : Type} (p : α → Bool) (l : List α) : Int := match l.findIdx? p with | some i => (i : Int) | none => -1
theorem idx_any {α : Type} (p : α → Bool) (l : List α) : decide (0 ≤ idxOf p l) = l.any p := by
  unfold idxOf
  cases h : l.findIdx? p with
  | none => 
    have := List.findIdx?_eq_none_iff.1 h
    simp
    exact this
  | some i =>
    obtain ⟨hi, hp, _⟩ := List.findIdx?_eq_some_iff_getElem.1 h
    simp
    exact ⟨_, List.getElem_mem hi, hp⟩
theorem findIdx_none {α : Type} (p : α → Bool) (l : List α) (h : ∀ x ∈ l, p x = false) : idxOf p l = -1 := by unfold idxOf; rw [List.findIdx?_eq_none_iff.2 h]
theorem findIdx_hit {α : Type} (p : α → Bool) (l : List α) (k : Nat) (x : α) (hx : l[k]? = some x) (hp : p x = true) (hno : ∀ y ∈ l.take k, p y = false) : idxOf p l = (k : Int) := by
  obtain ⟨hk, rfl⟩ := List.getElem?_eq_some_iff.1 hx
  have e : l.findIdx? p = some k := List.findIdx?_eq_some_iff_getElem.2 ⟨hk, hp, fun j hj => by
    have := hno l[j] (List.mem_take_iff_getElem.2 ⟨j, by omega, rfl⟩)
    simp [this]⟩
  unfold idxOf
  rw [e]

set_option maxHeartbeats 400000 in
set_option maxRecDepth 100000 in
theorem indexFunc_any (g : Nat) (cp : Array Value) (pr : File → Bool) (B : Nat) (A : Option Addr) (len cap : Nat) (fs : List File) (w : World) (hlen : len * 64 ≤ 140737488351232) (hr : Reads w B 6 A len (cellsOf fs)) (hB : B ≤ w.heap.size)
    (Bp : Nat) (hBp : Bp ≤ w.heap.size) (hp : PredF Bp w g cp pr) :
    Calls Try.prog 22 #[.slice A len cap, .func (.func g) #[] cp] w fun e w' =>
      e = .returned (.int .i64 (idxOf pr fs)) ∧ Below w.heap.size w w' := by
  obtain ⟨eg, hp⟩ := hp
  go_enter Try.func22, Try.ntmps22
  go_wp2_with fail
  go_loopw [8] (fun i wr => ∃ k : Nat, k ≤ len ∧ i = .int .i64 k ∧ (∀ f ∈ fs.take k, pr f = false) ∧ Below w.heap.size w wr)
    (fun i _ => len - (intOf i).toNat)
  case atStart => exact ⟨0, Nat.zero_le _, rfl, by simp, Below.refl _ _⟩
  case round =>
    obtain ⟨k, hk, rfl, hno, hb⟩ := hrel
    have Hno := Lib.hid hno
    clear hno
    have hlf := length_of_cells hr
    by_cases hlt : k < len
    · obtain ⟨ad, f, rfl, hbl, hf, c0, c1, c2, c3, c4, c5⟩ := hr.file hb hB hlt
      have Hf := Lib.hid hf
      have hz := hb.size
      clear hf hlf
      go_wp2_with fail
      refine (hp f _ (hb.mono hBp)).mono ?_
      rintro e w1 ⟨rfl, hb1⟩
      have hb2 := hb.trans (hb1.mono hz)
      clear hb1
      cases hpf : pr f
      · have Hpf := Lib.hid hpf
        clear hpf
        go_wp2_with fail
        go_roundw
        case rel =>
          refine ⟨k + 1, by omega, by go_num, ?_, hb2⟩
          rw [List.take_add_one, Hf.out]
          intro x hx
          simp only [List.mem_append, Option.toList_some, List.mem_singleton] at hx
          rcases hx with hx | rfl
          · exact Hno.out _ hx
          · exact Hpf.out
        case measure => simp [intOf]; omega
      · have Hpf := Lib.hid (findIdx_hit pr fs k f Hf.out hpf Hno.out)
        clear hpf
        go_wp2_with fail
        go_ret
        rw [Hpf.out]
        exact ⟨rfl, hb2⟩
    · have e1 := Lib.hid (findIdx_none pr fs (by have := Hno.out; rwa [List.take_of_length_le (by omega)] at this))
      clear hlf
      go_wp2_with fail
      go_ret
      rw [e1.out]
      exact ⟨rfl, hb⟩

theorem containsFunc_any (g : Nat) (cp : Array Value) (pr : File → Bool) (B : Nat) (A : Option Addr) (len cap : Nat) (fs : List File) (w : World) (hlen : len * 64 ≤ 140737488351232) (hr : Reads w B 6 A len (cellsOf fs)) (hB : B ≤ w.heap.size)
    (Bp : Nat) (hBp : Bp ≤ w.heap.size) (hp : PredF Bp w g cp pr) :
    Calls Try.prog 39 #[.slice A len cap, .func (.func g) #[] cp] w fun e w' => e = .returned (.bool (fs.any pr)) ∧ Below w.heap.size w w' := by
  have Hc := Lib.hid (indexFunc_any g cp pr B A len cap fs w hlen hr hB Bp hBp hp)
  have Hi := Lib.hid (show decide (0 ≤ idxOf pr fs) = fs.any pr from idx_any pr fs)
  clear hp hr
  go_enter Try.func39, Try.ntmps39
  go_wp2_with fail
  refine (Hc.out).mono ?_
  rintro e w1 ⟨rfl, hb1⟩
  go_wp2_with fail
  go_ret
  exact ⟨ret1 (bool_eq Hi.out), hb1⟩

theorem cells_set (ys : List File) (f : File) : cellsOf (ys ++ [f]) = cellsOf ys ++ f.cells := cellsOf_snoc ys f
theorem filter_of_idx_neg {α : Type} (p : α → Bool) (l : List α) (h : idxOf p l = -1) : l.filter (fun x => !p x) = l := by
  unfold idxOf at h
  cases e : l.findIdx? p with
  | none => exact List.filter_eq_self.2 fun x hx => by rw [List.findIdx?_eq_none_iff.1 e x hx]; rfl
  | some i => rw [e] at h; simp only at h; omega
theorem filter_of_idx {α : Type} (p : α → Bool) (l : List α) (h : ¬ idxOf p l = -1) : ∃ k : Nat, idxOf p l = k ∧ k < l.length ∧ (l.take (k + 1)).filter (fun x => !p x) = l.take k := by
  unfold idxOf at h ⊢
  cases e : l.findIdx? p with
  | none => rw [e] at h; exact absurd rfl h
  | some i =>
    obtain ⟨hi, hp, hno⟩ := List.findIdx?_eq_some_iff_getElem.1 e
    refine ⟨i, rfl, hi, ?_⟩
    rw [List.take_add_one, List.getElem?_eq_getElem hi, List.filter_append]
    have h1 : (l.take i).filter (fun x => !p x) = l.take i := List.filter_eq_self.2 fun x hx => by
      obtain ⟨j, hj, rfl⟩ := List.mem_take_iff_getElem.1 hx
      have := hno j (by omega)
      simpa using this
    rw [h1]
    simp [hp]
theorem cellsOf_append (a b : List File) : cellsOf (a ++ b) = cellsOf a ++ cellsOf b := by simp [cellsOf]
theorem cellsOf_take (l : List File) (k : Nat) : (cellsOf l).take (k * 6) = cellsOf (l.take k) := by
  induction l generalizing k with
  | nil => simp [cellsOf]
  | cons f l ih =>
    match k with
    | 0 => simp [cellsOf]
    | k + 1 =>
      rw [List.take_succ_cons]
      show ((f.cells ++ cellsOf l)).take ((k + 1) * 6) = f.cells ++ cellsOf (l.take k)
      rw [← ih k, List.take_append, List.take_of_length_le (by simp [File.cells]; omega)]
      congr 2
      simp [File.cells]; omega
theorem cellsOf_drop (l : List File) (k : Nat) : (cellsOf l).drop (k * 6) = cellsOf (l.drop k) := by
  induction l generalizing k with
  | nil => simp [cellsOf]
  | cons f l ih =>
    match k with
    | 0 => simp [cellsOf]
    | k + 1 =>
      rw [List.drop_succ_cons]
      show ((f.cells ++ cellsOf l)).drop ((k + 1) * 6) = cellsOf (l.drop k)
      rw [← ih k, List.drop_append, List.drop_of_length_le (by simp [File.cells]; omega), List.nil_append]
      congr 1
      simp [File.cells]; omega
/-- What the row holds while a file is being dropped: m kept, the first j seen. -/
def DelRow (w : World) (g cap n : Nat) (ks rest : List File) (j : Nat) : Prop :=
  ∃ cur : Array Value, w.heap[g]? = some (.cells cur 37 (0, 0)) ∧ cur.size = cap * 6 ∧ cur.toList.take (ks.length * 6) = cellsOf ks ∧ (cur.toList.drop (j * 6)).take ((n - j) * 6) = cellsOf rest
theorem DelRow.cells {w : World} {g cap n j : Nat} {ks fs : List File} {f : File} (h : DelRow w g cap n ks (fs.drop j) j) (hf : fs[j]? = some f) (_hj : j ≤ n) : ∀ i u, f.cells[i]? = some u → w.cell? ((⟨g, j * 6, none⟩ : Addr).add i) = some u := by
  intro i u hu
  obtain ⟨cur, hg, hs, _, hd⟩ := h
  have hadd : (⟨g, j * 6, none⟩ : Addr).add i = ⟨g, j * 6 + i, none⟩ := by unfold Addr.add; split <;> simp_all
  have hi : i < 6 := by have := (List.getElem?_eq_some_iff.1 hu).1; simpa [File.cells] using this
  rw [hadd, cell_of_row w g _ cur _ (0, 0) hg]
  have h1 : (cellsOf (fs.drop j))[i]? = some u := by
    have := get_cellsOf (fs.drop j) 0 f (by simpa using hf) i hi
    simpa [hu] using this
  rw [← hd, List.getElem?_take] at h1
  split at h1
  · simpa [List.getElem?_drop] using h1
  · cases h1
theorem DelRow.file {w : World} {g cap n j : Nat} {ks fs : List File} {f : File} (h : DelRow w g cap n ks (fs.drop j) j) (hf : fs[j]? = some f) (hj : j ≤ n) :
    w.cell? ⟨g, j * 6, none⟩ = some (.int .i64 f.num) ∧ w.cell? ⟨g, j * 6 + 1, none⟩ = some (.int .i64 f.level) ∧ w.cell? ⟨g, j * 6 + 2, none⟩ = some (.string f.first) ∧ w.cell? ⟨g, j * 6 + 3, none⟩ = some (.string f.last) ∧
      w.cell? ⟨g, j * 6 + 4, none⟩ = some (.int .i64 f.count) ∧ w.cell? ⟨g, j * 6 + 5, none⟩ = some (.int .i64 f.size) :=
  ⟨h.cells hf hj 0 _ rfl, h.cells hf hj 1 _ rfl, h.cells hf hj 2 _ rfl, h.cells hf hj 3 _ rfl, h.cells hf hj 4 _ rfl, h.cells hf hj 5 _ rfl⟩
theorem DelRow.kept {w w' : World} {g cap n j B : Nat} {ks rest : List File} (h : DelRow w g cap n ks rest j) (hb : Below B w w') (hB : g < B) : DelRow w' g cap n ks rest j := by
  obtain ⟨cur, hg, r⟩ := h
  exact ⟨cur, (hb.block g hB).trans hg, r⟩
theorem delRow_skip {w : World} {g cap n j : Nat} {ks fs : List File} (h : DelRow w g cap n ks (fs.drop j) j) (hn : fs.length = n) (hj : j < n) : DelRow w g cap n ks (fs.drop (j + 1)) (j + 1) := by
  obtain ⟨cur, hg, hs, hk, hd⟩ := h
  refine ⟨cur, hg, hs, hk, ?_⟩
  have e : fs.drop (j + 1) = (fs.drop j).drop 1 := by rw [List.drop_drop]
  rw [e, ← cellsOf_drop, ← hd, List.drop_take, List.drop_drop]
  congr 1
  · omega
  · congr 1; omega
theorem delRow_step {w : World} {g cap n j : Nat} {ks fs : List File} {f : File} {cur : Array Value} {off : Nat} {cs : Array Value}
    (hg : w.heap[g]? = some (.cells (cur.toList.take off ++ (cs.toList ++ cur.toList.drop (off + cs.size))).toArray 37 (0, 0))) (hs : cur.size = cap * 6) (hk : cur.toList.take (ks.length * 6) = cellsOf ks)
    (hd : (cur.toList.drop (j * 6)).take ((n - j) * 6) = cellsOf (fs.drop j)) (hn : fs.length = n) (hj : j < n) (hm : ks.length < j) (hoff : off = ks.length * 6) (hcs : cs = f.cells.toArray) (hnc : n ≤ cap) : DelRow w g cap n (ks ++ [f]) (fs.drop (j + 1)) (j + 1) := by
  subst hoff
  subst hcs
  have hcl : (cur.toList).length = cap * 6 := by simpa using hs
  have h6 : f.cells.length = 6 := by simp [File.cells]
  refine ⟨_, hg, ?_, ?_, ?_⟩
  · rw [List.size_toArray, List.length_append, List.length_append, List.length_take, List.length_drop, hcl]
    simp only [List.size_toArray, h6]
    omega
  · rw [cellsOf_snoc, List.length_append, ← hk]
    simp only [List.length_singleton]
    show List.take _ (_ ++ (_ ++ _)) = _
    rw [← List.append_assoc, List.take_append_of_le_length (by rw [List.length_append, List.length_take, hcl, h6]; omega)]
    rw [List.take_of_length_le (by rw [List.length_append, List.length_take, hcl, h6]; omega)]
  · have e : fs.drop (j + 1) = (fs.drop j).drop 1 := by rw [List.drop_drop]
    rw [e, ← cellsOf_drop, ← hd, List.drop_take, List.drop_drop]
    show List.take _ (List.drop _ (_ ++ (_ ++ _))) = _
    rw [← List.append_assoc, List.drop_append, List.drop_of_length_le (by rw [List.length_append, List.length_take, hcl, h6]; omega), List.nil_append, List.drop_drop, List.length_append, List.length_take, hcl, h6, List.size_toArray, h6]
    congr 1
    · omega
    · congr 1; omega
theorem delRow_start {w : World} {g cap n k : Nat} {fs : List File} (h : DelRow w g cap n [] fs 0) (hn : fs.length = n) (hk : k < n) : DelRow w g cap n (fs.take k) (fs.drop (k + 1)) (k + 1) := by
  obtain ⟨cur, hg, hs, _, hd⟩ := h
  simp only [Nat.zero_mul, List.drop_zero, Nat.sub_zero] at hd
  refine ⟨cur, hg, hs, ?_, ?_⟩
  · rw [← cellsOf_take, ← hd, List.take_take, List.length_take, Nat.min_eq_left (by omega), Nat.min_eq_left (by omega)]
  · rw [← cellsOf_drop, ← hd, List.drop_take]
    congr 1
    omega
set_option maxHeartbeats 800000 in
set_option maxRecDepth 100000 in
theorem deleteFunc_own (h : Nat) (cp : Array Value) (pr : File → Bool) (g n cap : Nat) (fs : List File) (w : World) (hcap : cap ≤ 9223372036854775807) (hlen : n * 64 ≤ 140737488351232) (hn : fs.length = n) (hnc : n ≤ cap) (hrow : DelRow w g cap n [] fs 0)
    (Bp : Nat) (hBp : Bp ≤ g) (hp : PredF Bp w h cp pr) :
    Calls Try.prog 32 #[.slice (some ⟨g, 0, none⟩) n cap, .func (.func h) #[] cp] w fun e w' =>
      e = .returned (.slice (some ⟨g, 0, none⟩) (fs.filter (fun f => !pr f)).length cap) ∧ DelRow w' g cap n (fs.filter (fun f => !pr f)) [] n ∧ w.grownBy w' (some g) := by
  obtain ⟨i0, hi0, hz0, hz1, hz2⟩ := info_parts info60
  obtain ⟨cur, hg, hcur, -, hcs⟩ := hrow
  have hgl : g < w.heap.size := (Array.getElem?_eq_some_iff.1 hg).1
  have hr : Reads w (g + 1) 6 (some ⟨g, 0, none⟩) n (cellsOf fs) := by
    refine ⟨by rw [length_cellsOf, hn], fun _ => ⟨_, rfl, Nat.lt_succ_self _, fun j u hu => ?_⟩⟩
    have hadd : (⟨g, 0, none⟩ : Addr).add j = ⟨g, j, none⟩ := by unfold Addr.add; split <;> simp_all
    rw [hadd, cell_of_row w g j cur _ (0, 0) hg, ← hu, ← hcs]
    have hj : j < n * 6 := by have := (List.getElem?_eq_some_iff.1 hu).1; rw [length_cellsOf] at this; omega
    simp [List.getElem?_take, hj]
  have Hc := Lib.hid (indexFunc_any h cp pr (g + 1) (some ⟨g, 0, none⟩) n cap fs w hlen hr (by omega) Bp (by omega) hp)
  clear hr
  obtain ⟨eg, hp⟩ := hp
  have Hp := Lib.hid hp
  clear hp
  go_enter Try.func32, Try.ntmps32
  go_wp2_with fail
  refine (Hc.out).mono ?_
  rintro e w1 ⟨rfl, hb1⟩
  by_cases hi : idxOf pr fs = -1
  · have hib : (idxOf pr fs == -1) = true := by simpa using hi
    have e1 := Lib.hid (filter_of_idx_neg pr fs hi)
    go_wp2_with fail
    go_ret
    rw [e1.out, hn]
    exact ⟨rfl, ⟨cur, (hb1.block g hgl).trans hg, hcur, by rw [hn]; simpa using hcs, by simp [cellsOf]⟩, only_of_below hb1 _⟩
  · have hib : (idxOf pr fs == -1) = false := by simpa using hi
    obtain ⟨k0, hk0, hkn, hfil⟩ := filter_of_idx pr fs hi
    rw [hk0] at hib ⊢
    rw [hn] at hkn
    have Hfil := Lib.hid hfil
    clear hi hk0 hfil
    go_wp2_with fail
    have hgr1 : w.grownBy w1 (some g) := only_of_below hb1 _
    have hrow1 : DelRow w1 g cap n (fs.take k0) (fs.drop (k0 + 1)) (k0 + 1) := delRow_start ⟨cur, (hb1.block g hgl).trans hg, hcur, by simp [cellsOf], hcs⟩ hn hkn
    clear hb1 hg hcur hcs Hc
    go_loopw [5, 6] (fun u v wr => ∃ j : Nat, j ≤ n ∧ v = .int .i64 j ∧ u = .int .i64 ((fs.take j).filter (fun f => !pr f)).length ∧ ((fs.take j).filter (fun f => !pr f)).length < j ∧ DelRow wr g cap n ((fs.take j).filter (fun f => !pr f)) (fs.drop j) j ∧ w.grownBy wr (some g))
      (fun _ v _ => n - (intOf v).toNat)
    case atStart =>
      refine ⟨k0 + 1, by omega, by go_num, ?_, ?_, ?_, hgr1⟩
      · rw [Hfil.out]; simp; omega
      · rw [Hfil.out]; simp; omega
      · rw [Hfil.out]; exact hrow1
    case round =>
      obtain ⟨j, hj, rfl, rfl, hmj, hrow, hgr⟩ := hrel
      have hm : ((fs.take j).filter (fun f => !pr f)).length ≤ n := by omega
      by_cases hlt : j < n
      · obtain ⟨f, hf⟩ : ∃ f, fs[j]? = some f := ⟨_, List.getElem?_eq_getElem (by omega)⟩
        obtain ⟨c0, c1, c2, c3, c4, c5⟩ := hrow.file hf hj
        have Hf := Lib.hid hf
        have hgs := hgr.size
        have hbB := only_to_below hgr (Nat.le_refl _) hgl
        clear hf Hfil hrow1 hgr1
        go_wp2_with fail
        refine (Hp.out f _ ((hbB.mono hBp).alloc (by omega) _)).mono ?_
        rintro e w2 ⟨rfl, hb2⟩
        have N := newcell hb2
        have e0 := N 0 _ rfl; have e1 := N 1 _ rfl; have e2 := N 2 _ rfl; have e3 := N 3 _ rfl; have e4 := N 4 _ rfl; have e5 := N 5 _ rfl
        have hz2' := size_of_alloc hb2
        have hrow2 := hrow.kept (below_of_alloc (Below.refl (g + 1) wr) (by omega) hb2) (Nat.lt_succ_self g)
        have hgr2 := only_of_alloc hgr hb2
        clear hb2 N hgr hrow hgs c0 c1 c2 c3 c4 c5 hbB
        cases hpf : pr f
        · have Hpf := Lib.hid (filter_hit (fun f => !pr f) fs j f Hf.out (by simp [hpf]))
          clear hpf
          obtain ⟨cur, hg, hcur, hk, hd⟩ := hrow2
          have Hk := Lib.hid hk
          have Hd := Lib.hid hd
          clear hk hd
          go_wp2_with (refine wpList_store_row rfl _ (.tmp 33) (.tmp 32) rfl rfl g (((fs.take j).filter (fun f => !pr f)).length * 6) rfl #[.int .i64 f.num, .int .i64 f.level, .string f.first, .string f.last, .int .i64 f.count, .int .i64 f.size] rfl i0 hi0 hz1 f.oneCells _ cur hg (by simp; omega) ?_; intro w3 hg3 hgr3 hz3)
          go_roundw
          case rel =>
            refine ⟨j + 1, by omega, by go_num, by rw [Hpf.out, List.length_append]; go_num, by rw [Hpf.out, List.length_append]; simp; omega, ?_, only_trans hgr2 hgr3⟩
            rw [Hpf.out]
            exact delRow_step hg3 hcur Hk.out Hd.out hn hlt hmj rfl rfl hnc
          case measure => simp [intOf]; omega
        · have Hpf := Lib.hid (filter_miss (fun f => !pr f) fs j f Hf.out (by simp [hpf]))
          clear hpf
          go_wp2_with fail
          go_roundw
          case rel => exact ⟨j + 1, by omega, by go_num, by rw [Hpf.out], by rw [Hpf.out]; omega, by rw [Hpf.out]; exact delRow_skip hrow2 hn hlt, hgr2⟩
          case measure => simp [intOf]; omega
      · obtain rfl : j = n := by omega
        obtain ⟨cur, hg, hcur, hk, hd⟩ := hrow
        have Hk := Lib.hid hk
        have ezero : ∀ w, (zeroValue 37).run Try.prog w = .ok (.agg #[.int .i64 0, .int .i64 0, .string ByteArray.empty, .string ByteArray.empty, .int .i64 0, .int .i64 0]) w := fun w => by simp [zeroValue, typeInfo, hi0, hz0]
        have Hf := Lib.hid (show fs.take j = fs from List.take_of_length_le (by omega))
        clear hk hd hrow1 hgr1 Hfil
        go_wp2_with (refine wpList_clear_row rfl (.tmp 38) _ rfl rfl 37 _ Try.underlying27 ezero (by simp [Value.cells, Value.oneCell']) (by simp [Value.cells]) g (((fs.take j).filter (fun f => !pr f)).length * 6) _ _ _ rfl (fun hpos => by first | rfl | (rw [if_neg (by omega)]; done) | (rw [if_neg (by omega)]; simp [Addr.add]; omega)) cur hg (by simp [Value.cells]; omega) ?_; intro w4 cur4 hg4 hs4 ht4 hgr4 hz4)
        go_ret
        rw [Hf.out] at ht4 ⊢
        have hk2 := Hk.out
        rw [Hf.out] at hk2
        exact ⟨rfl, ⟨cur4, hg4, hs4.trans hcur, ht4.trans hk2, by simp [cellsOf]⟩, only_trans hgr hgr4⟩

theorem deleteFunc_any (h : Nat) (cp : Array Value) (pr : File → Bool) (base : Nat) (v : Value) (fs : List File) (w : World) (hlen : fs.length * 64 ≤ 140737488351232) (hown : w.ownsRow base 37 6 v fs.length (cellsOf fs)) (hbase : base ≤ w.heap.size)
    (Bp : Nat) (hBp : Bp ≤ base) (hp : PredF Bp w h cp pr) :
    Calls Try.prog 32 #[v, .func (.func h) #[] cp] w fun e w' =>
      ∃ v', e = .returned v' ∧ w'.ownsRow base 37 6 v' (fs.filter (fun f => !pr f)).length (cellsOf (fs.filter (fun f => !pr f))) ∧ Below base w w' := by
  rcases hown.2 with ⟨rfl, hn⟩ | ⟨g, cap, cur, rfl, hg, hh, hc1, hc2, hcs, hct⟩
  · have hfs : fs = [] := List.eq_nil_of_length_eq_zero hn
    subst hfs
    have Hc := Lib.hid (indexFunc_any h cp pr w.heap.size none 0 0 [] w (by omega) Reads.none_ (Nat.le_refl _) Bp (by omega) hp)
    clear hown hn
    go_enter Try.func32, Try.ntmps32
    go_wp2_with fail
    refine (Hc.out).mono ?_
    rintro e w1 ⟨rfl, hb1⟩
    have hi : idxOf pr [] = -1 := rfl
    go_wp2_with fail
    go_ret
    exact ⟨_, rfl, World.ownsRow_nil _ _ _ _, hb1.mono hbase⟩
  · have hgl : g < w.heap.size := (Array.getElem?_eq_some_iff.1 hh).1
    refine (deleteFunc_own h cp pr g fs.length cap fs w (by unfold maxLen at hc2; omega) hlen rfl hc1 ⟨cur, hh, hcs, by simp [cellsOf], by simpa using hct⟩ Bp (by omega) hp).mono ?_
    rintro e w' ⟨rfl, ⟨cur', hg', hs', hk', -⟩, hgr⟩
    have hle := List.length_filter_le (fun f => !pr f) fs
    exact ⟨_, rfl, ⟨by rw [length_cellsOf], .inr ⟨g, cap, cur', rfl, hg, hg', by omega, hc2, hs', hk'⟩⟩, only_to_below hgr hg hgl⟩
end Go.Proofs.Ythcimkhnijnmgaa.Lv
