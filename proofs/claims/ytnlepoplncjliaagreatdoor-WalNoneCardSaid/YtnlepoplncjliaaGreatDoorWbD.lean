/-
  wal: the numbers of a log's segments. Condition: the disk's files are the log's own.
-/
import Derived.Test.YtnlepoplncjliaaGreatDoorWbC
import Derived.Sort.OwnSortedInts
namespace Go.Proofs.YtnlepoplncjliaaGreatDoor
open Go.RowKit Go.Maps Go.Sort

def logB : List Nat := [108, 111, 103]
def ackB : List Nat := [97, 99, 107]
def newB : List Nat := [110, 101, 119]
/-- Names of files that are a log's own. -/
def OwnNm (nm : List Nat) (s : List Nat) : Prop := ∃ n k, n ≤ 999999 ∧ (k = logB ∨ k = ackB ∨ k = newB) ∧ s = fileN nm n (46 :: k)
theorem DI_app (a b : List Int) : (a ++ b).map (Value.int .i64) = a.map (Value.int .i64) ++ b.map (Value.int .i64) := List.map_append
theorem zero_int : zeroIs Tryz.prog 3 = some (some (.int .i64 0)) := by kernel_rfl
/-- The numbers that names tell. -/
def NumIn (nm : List Nat) (names : List (List Nat)) (n : Nat) : Prop := n ≤ 999999 ∧ (fileN nm n (46 :: logB) ∈ names ∨ fileN nm n (46 :: ackB) ∈ names)
theorem ones_nat (l : List Nat) : ∀ u ∈ l.map (fun (n : Nat) => Value.int .i64 (n : Int)), u.oneCell' = true := fun u hu => by
  obtain ⟨z, -, rfl⟩ := List.mem_map.1 hu
  rfl
theorem dig6_inj {m n : Nat} (hm : m ≤ 999999) (hn : n ≤ 999999) (h : dig6 m = dig6 n) : m = n := by
  have h1 := atoi_dig6 hm
  rw [h, atoi_dig6 hn] at h1
  injection h1 with h1
  omega
theorem fileN_inj {nm : List Nat} {m n : Nat} {a b : List Nat} (hm : m ≤ 999999) (hn : n ≤ 999999) (h : fileN nm m a = fileN nm n b) : m = n ∧ a = b := by
  unfold fileN at h
  rw [List.append_assoc, List.append_assoc, List.append_assoc, List.append_assoc] at h
  have h1 := List.append_cancel_left h
  have h2 := List.append_cancel_left h1
  have h3 := List.append_inj h2 (by rw [dig6_len hm, dig6_len hn])
  exact ⟨dig6_inj hm hn h3.1, h3.2⟩
theorem numIn_more {nm : List Nat} {l : List (List Nat)} {n : Nat} {k : List Nat} (hn : n ≤ 999999) (m : Nat) : NumIn nm (l ++ [fileN nm n (46 :: k)]) m ↔ NumIn nm l m ∨ (m = n ∧ (k = logB ∨ k = ackB)) := by
  unfold NumIn
  simp only [List.mem_append, List.mem_singleton]
  constructor
  · rintro ⟨h1, (h2 | h2) | (h2 | h2)⟩
    · exact .inl ⟨h1, .inl h2⟩
    · obtain ⟨e1, e2⟩ := fileN_inj h1 hn h2
      exact .inr ⟨e1, .inl (by injection e2 with _ e2; exact e2.symm)⟩
    · exact .inl ⟨h1, .inr h2⟩
    · obtain ⟨e1, e2⟩ := fileN_inj h1 hn h2
      exact .inr ⟨e1, .inr (by injection e2 with _ e2; exact e2.symm)⟩
  · rintro (⟨h1, h2 | h2⟩ | ⟨rfl, rfl | rfl⟩)
    · exact ⟨h1, .inl (.inl h2)⟩
    · exact ⟨h1, .inr (.inl h2)⟩
    · exact ⟨hn, .inl (.inr rfl)⟩
    · exact ⟨hn, .inr (.inr rfl)⟩
/-- Behind the sort and the pressing: each number once, in order. -/
theorem comp_inv (d : Array Int) (hs : ∀ i j, i ≤ j → j < d.size → d[i]! ≤ d[j]!) : ∀ m, m ≤ d.size → (Lib.compactUpTo d m).Pairwise (· < ·) ∧ ∀ z, z ∈ Lib.compactUpTo d m ↔ ∃ i, i < m ∧ d[i]! = z
  | 0, _ => ⟨by simp [Lib.compactUpTo], fun z => by simp [Lib.compactUpTo]⟩
  | m + 1, h => by
    obtain ⟨h1, h2⟩ := comp_inv d hs m (by omega)
    rw [Lib.compactUpTo_succ]
    by_cases hk : m = 0 ∨ d[m]! ≠ d[m - 1]!
    · have hkk : Lib.keeps d m = true := by unfold Lib.keeps; exact decide_eq_true hk
      rw [hkk, if_pos rfl]
      refine ⟨?_, fun z => ?_⟩
      · rw [List.pairwise_append]
        refine ⟨h1, by simp, ?_⟩
        intro a ha b hb
        simp at hb
        subst hb
        obtain ⟨i, hi, rfl⟩ := (h2 a).1 ha
        have e1 := hs i (m - 1) (by omega) (by omega)
        have e2 := hs (m - 1) m (by omega) (by omega)
        rcases hk with hk | hk <;> omega
      · rw [List.mem_append, h2 z, List.mem_singleton]
        constructor
        · rintro (⟨i, hi, e⟩ | e)
          · exact ⟨i, by omega, e⟩
          · exact ⟨m, by omega, e.symm⟩
        · rintro ⟨i, hi, e⟩
          rcases Nat.lt_or_eq_of_le (Nat.le_of_lt_succ hi) with h3 | h3
          · exact .inl ⟨i, h3, e⟩
          · subst h3; exact .inr e.symm
    · have hkk : Lib.keeps d m = false := by unfold Lib.keeps; exact decide_eq_false hk
      rw [hkk]
      simp only [Bool.false_eq_true, if_false, List.append_nil]
      refine ⟨h1, fun z => ?_⟩
      rw [h2 z]
      have hk1 : m ≠ 0 := fun e => hk (.inl e)
      have hk2 : d[m]! = d[m - 1]! := by
        by_cases e : d[m]! = d[m - 1]!
        · exact e
        · exact absurd (.inr e) hk
      constructor
      · rintro ⟨i, hi, e⟩; exact ⟨i, by omega, e⟩
      · rintro ⟨i, hi, e⟩
        rcases Nat.lt_or_eq_of_le (Nat.le_of_lt_succ hi) with h3 | h3
        · exact ⟨i, h3, e⟩
        · subst h3; exact ⟨i - 1, by omega, by rw [← hk2]; exact e⟩
theorem press {zs : List Int} : (Lib.compact (zs.mergeSort fun x y => decide (x ≤ y))).Pairwise (· < ·) ∧ ∀ z, z ∈ Lib.compact (zs.mergeSort fun x y => decide (x ≤ y)) ↔ z ∈ zs := by
  obtain ⟨S, hS⟩ : ∃ S, S = zs.mergeSort (fun x y => decide (x ≤ y)) := ⟨_, rfl⟩
  have hsort : S.Pairwise (· ≤ ·) := by
    have h1 := List.pairwise_mergeSort (le := fun (x y : Int) => decide (x ≤ y)) (fun a b c h1 h2 => by rw [decide_eq_true_eq] at *; omega) (fun a b => by rw [Bool.or_eq_true, decide_eq_true_eq, decide_eq_true_eq]; omega) zs
    rw [← hS] at h1
    exact h1.imp fun h => by simpa using h
  have hperm : S.Perm zs := by rw [hS]; exact List.mergeSort_perm _ _
  rw [← hS]
  have hs : ∀ i j, i ≤ j → j < S.toArray.size → S.toArray[i]! ≤ S.toArray[j]! := fun i j hij hj => by
    have hj' : j < S.length := by simpa using hj
    rw [getElem!_pos S.toArray i (by simpa using (show i < S.length by omega)), getElem!_pos S.toArray j (by simpa using hj')]
    rcases Nat.lt_or_eq_of_le hij with h1 | h1
    · exact List.pairwise_iff_getElem.1 hsort i j (by omega) hj' h1
    · subst h1; exact Int.le_refl _
  obtain ⟨h1, h2⟩ := comp_inv S.toArray hs S.length (by simp)
  refine ⟨h1, fun z => ?_⟩
  rw [← hperm.mem_iff]
  show z ∈ Lib.compactUpTo S.toArray S.length ↔ _
  rw [h2 z]
  constructor
  · rintro ⟨i, hi, e⟩
    rw [getElem!_pos S.toArray i (by simpa using hi)] at e
    rw [← e]
    simp
  · intro hz
    obtain ⟨i, hi, e⟩ := List.getElem_of_mem hz
    exact ⟨i, hi, by rw [getElem!_pos S.toArray i (by simpa using hi)]; simpa using e⟩
theorem Own.mono {w : World} {B B' size n : Nat} {e : TypeId} {v : Value} {xs : List Value} (h : Own w B e size v n xs) (hB : B' ≤ B) : Own w B' e size v n xs := by
  obtain ⟨⟨hl, h0 | ⟨g, cap, cur, hv, hb, r⟩⟩⟩ := h
  · exact ⟨⟨hl, .inl h0⟩⟩
  · exact ⟨⟨hl, .inr ⟨g, cap, cur, hv, Nat.le_trans hB hb, r⟩⟩⟩
theorem sortI_any (B c n : Nat) (A : Option Addr) (zs : List Int) (w : World) (own : Own w B 3 1 (.slice A n c) n (zs.map (Value.int .i64))) (hn : n ≤ 1000000) : Calls Tryz.prog 57 #[.slice A n c] w fun e w' => e = .returned (.tuple #[]) ∧ Own w' B 3 1 (.slice A n c) n ((zs.mergeSort fun x y => decide (x ≤ y)).map (Value.int .i64)) ∧ Below B w w' := by
  have hl : zs.length = n := by have := own.row.1; simpa using this
  rcases own.row.2 with ⟨hv, h0⟩ | ⟨g, cap, cur, hv, hb, hg, h1, h2, h3, h4⟩
  · injection hv with e1 e2 e3
    subst e1 e2 e3
    obtain rfl : zs = [] := List.eq_nil_of_length_eq_zero hl
    refine (Any.slices_Sort_int_none shSortI none 0 w).mono ?_
    rintro e w' ⟨rfl, rfl⟩
    exact ⟨rfl, by simpa using own, Below.refl _ _⟩
  · injection hv with e1 _ e3
    subst e1 e3 hl
    have hgl : g < w.heap.size := (Array.getElem?_eq_some_iff.1 hg).1
    have hH := holds_of_blockI (ss := zs) hg (by simpa using h4)
    refine (Any.slices_Sort_int shSortI g 0 c zs w hH hgl (by omega)).mono ?_
    rintro e w' ⟨rfl, m, os, rfl⟩
    exact ⟨rfl, ⟨ownsRow_sortedI (by simp) hb hg h1 h2 h3⟩, only_to_below (grownBy_sortedI _) hb hgl⟩
theorem compI_any (B c n : Nat) (A : Option Addr) (zs : List Int) (w : World) (own : Own w B 3 1 (.slice A n c) n (zs.map (Value.int .i64))) (hn : n ≤ 1000000) : Calls Tryz.prog 58 #[.slice A n c] w fun e w' => ∃ v, e = .returned v ∧ Own w' B 3 1 v (Lib.compact zs).length ((Lib.compact zs).map (Value.int .i64)) ∧ Below B w w' := by
  have hl : zs.length = n := by have := own.row.1; simpa using this
  rcases own.row.2 with ⟨hv, h0⟩ | ⟨g, cap, cur, hv, hb, hg, h1, h2, h3, h4⟩
  · injection hv with e1 e2 e3
    subst e1 e2 e3
    obtain rfl : zs = [] := List.eq_nil_of_length_eq_zero hl
    refine (Any.slices_Compact_int_empty shComp none 0 w).mono ?_
    rintro e w' ⟨rfl, rfl⟩
    exact ⟨_, rfl, own, Below.refl _ _⟩
  · injection hv with e1 _ e3
    subst e1 e3 hl
    have hgl : g < w.heap.size := (Array.getElem?_eq_some_iff.1 hg).1
    have hH := holds_of_blockI (ss := zs) hg (by simpa using h4)
    refine (Any.slices_Compact_int shComp g 0 c zs w hH (by omega) h1).mono ?_
    rintro e w' ⟨rfl, q, rfl⟩
    have hcl : (Lib.compact zs).length ≤ zs.length := by
      show (((List.range zs.length).filter _).map _).length ≤ _
      rw [List.length_map]
      exact Nat.le_trans (List.length_filter_le _ _) (by simp)
    have hr := ownsRow_sortedI (n := q) (os := #[]) (ss := zs) (ts := Lib.compact zs ++ List.replicate (zs.length - (Lib.compact zs).length) 0) (by rw [List.length_append, List.length_replicate]; omega) hb hg h1 h2 h3
    rw [grow_empty] at hr
    have hbl : Below B w (putRow (Value.int .i64) (Sort.ahead w q) g 0 (Lib.compact zs ++ List.replicate (zs.length - (Lib.compact zs).length) 0).toArray) := by
      have := grownBy_sortedI (w := w) (g := g) (n := q) (os := #[]) (Lib.compact zs ++ List.replicate (zs.length - (Lib.compact zs).length) 0).toArray
      rw [grow_empty] at this
      exact only_to_below this hb hgl
    refine ⟨_, rfl, ?_, hbl⟩
    obtain ⟨hl2, ⟨hv2, -⟩ | ⟨g2, cap2, cur2, hv2, hb2, hg2, h12, h22, h32, h42⟩⟩ := hr
    · cases hv2
    · injection hv2 with e1 _ e3
      subst e3
      refine ⟨⟨by simp, .inr ⟨g2, c, cur2, by rw [e1], hb2, hg2, by omega, h22, h32, ?_⟩⟩⟩
      rw [Nat.mul_one] at h42 ⊢
      have : cur2.toList.take (Lib.compact zs).length = (cur2.toList.take zs.length).take (Lib.compact zs).length := by rw [List.take_take, Nat.min_eq_left hcl]
      have hlm : ((Lib.compact zs).map (Value.int .i64)).length = (Lib.compact zs).length := List.length_map _
      rw [this, h42, List.map_append, ← hlm, List.take_left]
set_option maxHeartbeats 4000000 in
theorem numbers_any (B g0 gd : Nat) (D : Dk) (nm : List Nat) (num count size : Int) (broken : Bool) (w : World) (gv : Gv w) (k0 : Blk w g0 80 (wlCs gd nm num count size broken)) (dk : DkAt w B gd D) (hnm : Byt nm) (hnl : nm.length ≤ 8) (hown : ∀ p ∈ D.files, OwnNm nm p.1) :
    Calls Tryz.prog 37 #[.pointer (some ⟨g0, 0, none⟩)] w fun e w' => ∃ (v : Value) (ns : List Nat), e = .returned v ∧ ns.Pairwise (· < ·) ∧ (∀ n, n ∈ ns ↔ NumIn nm (D.files.map (·.1)) n) ∧ Own w' w.heap.size 3 1 v ns.length (ns.map fun (n : Nat) => Value.int .i64 (n : Int)) ∧ Grow w w' := by
  have bel := Below.refl w.heap.size w
  have own := Own.nil w w.heap.size 3 1
  obtain ⟨names, hnames⟩ : ∃ names, names = sortN (D.files.map (·.1)) := ⟨_, rfl⟩
  have hperm : names.Perm (D.files.map (·.1)) := by rw [hnames]; exact List.mergeSort_perm _ _
  have hmost : D.files.length ≤ 200 := by obtain ⟨m, l, F, c1, c2, h⟩ := dk; exact h.ok.most
  have hnlen : names.length = D.files.length := by rw [hperm.length_eq, List.length_map]
  have hgood : ∀ s ∈ names, OwnNm nm s := fun s hs => by
    obtain ⟨p, hp, rfl⟩ := List.mem_map.1 (hperm.mem_iff.1 hs)
    exact hown p hp
  refine Calls.start 82 Tryz.func37 rfl rfl rfl ?_
  refine Cd.seq ?_
  refine Cd.region ?_
  refine Seq.val (Runs.assign rfl rfl) rfl rfl rfl ?_
  refine Seq.nil ?_
  refine Post.weak (F' := [(0, _), (2, _)]) ⟨rfl, rfl, trivial⟩ ?_
  refine Post.then_ ?_
  refine Cd.seq ?_
  refine Cd.region ?_
  refine Seq.val (Runs.assign rfl rfl) rfl rfl rfl ?_
  refine Seq.nil ?_
  refine Post.weak (F' := [(0, _), (2, _), (3, _)]) ⟨rfl, rfl, rfl, trivial⟩ ?_
  refine Post.then_ ?_
  refine Cd.seq ?_
  refine Cd.seq ?_
  refine Cd.region ?_
  refine Seq.val (Runs.move rfl rfl) rfl rfl rfl ?_
  refine Seq.val (Runs.nilCheck rfl rfl) rfl rfl rfl ?_
  refine Seq.val (Runs.fieldB 0 rfl rfl Tryz.underlying80 rfl (by kernel_rfl)) rfl rfl rfl ?_
  refine Seq.val (Runs.loadB rfl rfl Tryz.underlying26 rfl k0 rfl) rfl rfl rfl ?_
  refine Seq.call (Enters.func rfl rfl rfl (run_enter Tryz.func31 (by kernel_rfl) rfl)) rfl rfl rfl (names_any B gd D _ (dk.step bel)) ?_
  rintro e w5 ⟨v17, rfl, ownN, hb5⟩
  refine ⟨_, rfl, ?_⟩
  rw [← hnames] at ownN
  replace bel := bel.step hb5
  replace k0 := k0.step hb5
  replace own := own.step hb5
  obtain ⟨A, c, rfl, hrd⟩ := ownN.reads
  refine Seq.val (Runs.len rfl rfl Tryz.underlying22) rfl rfl rfl ?_
  refine Seq.val (Runs.move rfl rfl) rfl rfl rfl ?_
  refine Seq.nil ?_
  refine Post.weak (F' := [(0, _), (2, _), (3, _), (17, _), (18, _), (19, _)]) ⟨rfl, rfl, rfl, rfl, rfl, rfl, trivial⟩ ?_
  refine Post.then_ ?_
  refine Cd.block ?_
  have hw5 := bel.size
  have bel0 := bel
  clear bel
  have bel := Below.refl w5.heap.size w5
  clear own
  have own := Own.nil w5 w5.heap.size 3 1
  refine Cd.loop (σ := Nat × List Nat × Value) (fun q => [(0, .pointer (some ⟨g0, 0, none⟩)), (17, .slice A D.files.length c), (18, .int .i64 (D.files.length : Int)), (19, .int .i64 (q.1 : Int)), (3, q.2.2)]) (fun q wr => q.1 ≤ D.files.length ∧ q.2.1.length ≤ q.1 ∧ (∀ n, n ∈ q.2.1 ↔ NumIn nm (names.take q.1) n) ∧ Below w5.heap.size w5 wr ∧ Blk wr g0 80 (wlCs gd nm num count size broken) ∧ Own wr w5.heap.size 3 1 q.2.2 q.2.1.length (q.2.1.map fun (n : Nat) => Value.int .i64 (n : Int))) (fun q => D.files.length - q.1) (0, [], .slice none 0 0) ⟨Nat.zero_le _, Nat.le_refl _, fun n => by simp [NumIn], bel, k0, own⟩ ⟨rfl, rfl, rfl, rfl, rfl, trivial⟩ ?_
  clear bel k0 own
  rintro ⟨j, zs, v⟩ wr ⟨hj, hzl, hmem, bel, k0, own⟩
  simp only at hj hzl hmem own
  obtain ⟨A3, c3, rfl, -⟩ := own.reads
  show Cd _ _ _ _ [(0, .pointer (some ⟨g0, 0, none⟩)), (17, .slice A D.files.length c), (18, .int .i64 (D.files.length : Int)), (19, .int .i64 (j : Int)), (3, .slice A3 zs.length c3)] _
  refine Cd.seq ?_
  refine Cd.region ?_
  refine Seq.val (Runs.lss rfl rfl rfl) rfl rfl rfl ?_
  refine Seq.nil ?_
  refine Post.weak (F' := [(0, _), (3, _), (17, _), (18, _), (19, _), (20, _)]) ⟨rfl, rfl, rfl, rfl, rfl, rfl, trivial⟩ ?_
  refine Post.then_ ?_
  refine Cd.seq ?_
  refine Cd.condD rfl (fun hc => ?_) (fun hc => ?_)
  · obtain ⟨s, hs⟩ : ∃ s, names[j]? = some s := ⟨_, List.getElem?_eq_getElem (by omega)⟩
    obtain ⟨n, k, hn, hk, rfl⟩ := hgood s (List.mem_of_getElem? hs)
    have hsf : fileN nm n (46 :: k) = (nm ++ [46]) ++ (dig6 n ++ 46 :: k) := by unfold fileN; simp
    have hd6 := dig6_len hn
    have hd6l := dig6_lt n
    have hk3 : k.length = 3 := by rcases hk with rfl | rfl | rfl <;> rfl
    have hkb : Byt k := by rcases hk with rfl | rfl | rfl <;> (intro d hd; revert d; decide)
    obtain ⟨ad, rfl, hbd, hcl⟩ := hrd.2 (by omega)
    have hcd := (bel.cell (p := ad.add j) (by rw [block_of_add]; exact hbd)).trans (hcl j (.string (strOf (fileN nm n (46 :: k)))) (by rw [get_Ts, hs]; rfl))
    have gv1 : Gv wr := gv.step (bel0.trans (bel.mono hw5))
    refine Cd.skip ?_
    refine Post.then_ ?_
    refine Cd.seq ?_
    refine Cd.block ?_
    refine Cd.seq ?_
    refine Cd.region ?_
    refine Seq.val (Runs.index1 rfl rfl rfl Tryz.underlying22 (by kernel_rfl) (j := j) rfl (by omega)) rfl rfl rfl ?_
    refine Seq.val (Runs.load1 rfl rfl Tryz.underlying9 rfl hcd) rfl rfl rfl ?_
    refine Seq.val (Runs.assign rfl rfl) rfl rfl rfl ?_
    refine Seq.nil ?_
    refine Post.weak (F' := [(0, _), (3, _), (5, _), (17, _), (18, _), (19, _), (20, _)]) ⟨rfl, rfl, rfl, rfl, rfl, rfl, rfl, trivial⟩ ?_
    refine Post.then_ ?_
    refine Cd.seq ?_
    refine Cd.region ?_
    refine Seq.val (Runs.move rfl rfl) rfl rfl rfl ?_
    refine Seq.val (Runs.move rfl rfl) rfl rfl rfl ?_
    refine Seq.val (Runs.nilCheck rfl rfl) rfl rfl rfl ?_
    refine Seq.val (Runs.fieldB 1 rfl rfl Tryz.underlying80 rfl (by kernel_rfl)) rfl rfl rfl ?_
    refine Seq.val (Runs.loadB rfl rfl Tryz.underlying9 rfl k0 rfl) rfl rfl rfl ?_
    refine Seq.val (Runs.addL (b := [46]) rfl rfl rfl (show nm.length + 1 ≤ _ by omega)) rfl rfl rfl ?_
    rw [hsf]
    refine Seq.call (Enters.func rfl rfl rfl (run_enter Tryz.func54 (by kernel_rfl) rfl)) rfl rfl rfl (cutP_any (nm ++ [46]) (dig6 n ++ 46 :: k) _) ?_
    rintro e x6 ⟨rfl, hb6⟩
    refine ⟨_, rfl, ?_⟩
    replace bel := bel.step hb6
    replace k0 := k0.step hb6
    replace own := own.step hb6
    refine Seq.val (Runs.move rfl rfl) rfl rfl rfl ?_
    refine Seq.val (Runs.extract rfl rfl rfl) rfl rfl rfl ?_
    refine Seq.val (Runs.extract rfl rfl rfl) rfl rfl rfl ?_
    refine Seq.val (Runs.assign rfl rfl) rfl rfl rfl ?_
    refine Seq.val (Runs.assign rfl rfl) rfl rfl rfl ?_
    refine Seq.nil ?_
    refine Post.weak (F' := [(0, _), (3, _), (5, _), (6, _), (7, _), (17, _), (18, _), (19, _), (20, _)]) ⟨rfl, rfl, rfl, rfl, rfl, rfl, rfl, rfl, rfl, trivial⟩ ?_
    refine Post.then_ ?_
    refine Cd.seq ?_
    refine Cd.region ?_
    refine Seq.val (Runs.move rfl rfl) rfl rfl rfl ?_
    refine Seq.call (Enters.func rfl rfl rfl (run_enter Tryz.func55 (by kernel_rfl) rfl)) rfl rfl rfl (cut_any (dig6 n) k _ (gv.step (bel0.trans (bel.mono hw5))) (fun c hc => by have := hd6l c hc; omega) (fun c hc => by have := hd6l c hc; omega) (by omega)) ?_
    rintro e x7 ⟨rfl, hb7⟩
    refine ⟨_, rfl, ?_⟩
    replace bel := bel.step hb7
    replace k0 := k0.step hb7
    replace own := own.step hb7
    refine Seq.val (Runs.move rfl rfl) rfl rfl rfl ?_
    refine Seq.val (Runs.extract rfl rfl rfl) rfl rfl rfl ?_
    refine Seq.val (Runs.extract rfl rfl rfl) rfl rfl rfl ?_
    refine Seq.val (Runs.extract rfl rfl rfl) rfl rfl rfl ?_
    refine Seq.val (Runs.assign rfl rfl) rfl rfl rfl ?_
    refine Seq.val (Runs.assign rfl rfl) rfl rfl rfl ?_
    refine Seq.val (Runs.assign rfl rfl) rfl rfl rfl ?_
    refine Seq.nil ?_
    refine Post.weak (F' := [(0, _), (3, _), (5, _), (6, _), (7, _), (8, _), (9, _), (10, _), (17, _), (18, _), (19, _), (20, _)]) ⟨rfl, rfl, rfl, rfl, rfl, rfl, rfl, rfl, rfl, rfl, rfl, rfl, trivial⟩ ?_
    refine Post.then_ ?_
    refine Cd.seq ?_
    refine Cd.region ?_
    refine Seq.val (Runs.move rfl rfl) rfl rfl rfl ?_
    refine Seq.call (Enters.func rfl rfl rfl (run_enter Tryz.func56 (by kernel_rfl) rfl)) rfl rfl rfl (atoi_any n _ hn) ?_
    rintro e x8 ⟨rfl, hb8⟩
    refine ⟨_, rfl, ?_⟩
    replace bel := bel.step hb8
    replace k0 := k0.step hb8
    replace own := own.step hb8
    refine Seq.val (Runs.move rfl rfl) rfl rfl rfl ?_
    refine Seq.val (Runs.extract rfl rfl rfl) rfl rfl rfl ?_
    refine Seq.val (Runs.extract rfl rfl rfl) rfl rfl rfl ?_
    refine Seq.val (Runs.assign rfl rfl) rfl rfl rfl ?_
    refine Seq.val (Runs.assign rfl rfl) rfl rfl rfl ?_
    refine Seq.nil ?_
    refine Post.weak (F' := [(0, _), (3, _), (5, _), (6, _), (7, _), (8, _), (9, _), (10, _), (11, _), (12, _), (17, _), (18, _), (19, _), (20, _)]) ⟨rfl, rfl, rfl, rfl, rfl, rfl, rfl, rfl, rfl, rfl, rfl, rfl, rfl, rfl, trivial⟩ ?_
    refine Post.then_ ?_
    refine Cd.seq ?_
    refine Cd.region ?_
    refine Seq.val (Runs.move rfl rfl) rfl rfl rfl ?_
    refine Seq.val (Runs.move rfl rfl) rfl rfl rfl ?_
    refine SeqC.start ?_
    refine SeqC.open rfl rfl rfl rfl rfl rfl rfl (fun hcx => Runs.move rfl rfl) ?_
    refine SeqC.and rfl rfl rfl rfl rfl rfl rfl ?_
    refine Seq.val (Runs.move rfl rfl) rfl rfl rfl ?_
    refine SeqC.start ?_
    refine SeqC.open rfl rfl rfl rfl rfl rfl rfl (fun hcx => Runs.move rfl rfl) ?_
    refine SeqC.next rfl rfl rfl rfl rfl rfl rfl (fun hcx => Runs.bin (v := .bool true) rfl rfl rfl rfl (by kernel_rfl)) ?_
    refine SeqC.and rfl rfl rfl rfl rfl rfl rfl ?_
    refine Seq.val (Runs.move rfl rfl) rfl rfl rfl ?_
    refine SeqC.start ?_
    refine SeqC.open rfl rfl rfl rfl rfl rfl rfl (fun hcx => Runs.move rfl rfl) ?_
    have hfb : Byt (fileN nm n (46 :: k)) := by
      unfold fileN
      refine Byt.app (Byt.app (Byt.app hnm (by intro d hd; simp at hd; omega)) (fun c hc => by have := hd6l c hc; omega)) ?_
      intro d hd
      rcases List.mem_cons.1 hd with rfl | hd
      · omega
      · exact hkb d hd
    refine SeqC.next rfl rfl rfl rfl rfl rfl rfl (fun hcx => Runs.eqlL (b := logB) rfl rfl rfl hkb (by decide)) ?_
    refine SeqC.next rfl rfl rfl rfl rfl rfl rfl (fun hcx => Runs.move rfl rfl) ?_
    refine SeqC.open rfl rfl rfl rfl rfl rfl rfl (fun hcx => Runs.move rfl rfl) ?_
    refine SeqC.next rfl rfl rfl rfl rfl rfl rfl (fun hcx => Runs.eqlL (b := ackB) rfl rfl rfl hkb (by decide)) ?_
    refine SeqC.orG rfl rfl rfl rfl rfl rfl rfl rfl rfl rfl rfl ?_
    refine SeqC.and rfl rfl rfl rfl rfl rfl rfl ?_
    refine Seq.val (Runs.move rfl rfl) rfl rfl rfl ?_
    refine SeqC.start ?_
    refine SeqC.open rfl rfl rfl rfl rfl rfl rfl (fun hcx => Runs.move rfl rfl) ?_
    refine SeqC.next rfl rfl rfl rfl rfl rfl rfl (fun hcx => Runs.move rfl rfl) ?_
    refine SeqC.next rfl rfl rfl rfl rfl rfl rfl (fun hcx => Runs.move rfl rfl) ?_
    refine SeqC.next rfl rfl rfl rfl rfl rfl rfl (fun hcx => Runs.addL (a := [46]) (b := k) rfl rfl rfl (by simp only [List.length_singleton]; omega)) ?_
    refine SeqC.nextC rfl rfl rfl rfl rfl rfl rfl (fun hcx => Enters.func rfl rfl rfl (run_enter Tryz.func50 (by kernel_rfl) rfl)) (fun hcx => file_any g0 gd n nm (46 :: k) num count size broken _ (gv.step (bel0.trans (bel.mono hw5))) k0 hn (by omega) (by simp only [List.length_cons]; omega)) ?_
    intro w1 hw1
    replace bel := bel.step hw1
    replace k0 := k0.step hw1
    replace own := own.step hw1
    refine SeqC.next rfl rfl rfl rfl rfl rfl rfl (fun hcx => Runs.move rfl rfl) ?_
    refine SeqC.next rfl rfl rfl rfl rfl rfl rfl (fun hcx => Runs.eqlL rfl rfl rfl hfb (by rw [← hsf]; exact hfb)) ?_
    refine SeqC.and rfl rfl rfl rfl rfl rfl rfl ?_
    refine Seq.val (Runs.move rfl rfl) rfl rfl rfl ?_
    refine SeqC.start ?_
    refine SeqC.open rfl rfl rfl rfl rfl rfl rfl (fun hcx => Runs.move rfl rfl) ?_
    refine SeqC.next rfl rfl rfl rfl rfl rfl rfl (fun hcx => Runs.geq rfl rfl rfl) ?_
    refine SeqC.and rfl rfl rfl rfl rfl rfl rfl ?_
    refine Seq.nil ?_
    refine Post.weak (F' := [(0, _), (3, _), (5, _), (6, _), (7, _), (8, _), (9, _), (10, _), (11, _), (12, _), (17, _), (18, _), (19, _), (20, _), (72, _)]) ⟨rfl, rfl, rfl, rfl, rfl, rfl, rfl, rfl, rfl, rfl, rfl, rfl, rfl, rfl, rfl, trivial⟩ ?_
    refine Post.then_ ?_
    have hval : (decide (k = logB) || decide (k = ackB)) = true ↔ (k = logB ∨ k = ackB) := by rw [Bool.or_eq_true, decide_eq_true_eq, decide_eq_true_eq]
    have hnj : names.take (j + 1) = names.take j ++ [fileN nm n (46 :: k)] := take_last hs
    refine Cd.cond rfl (fun h => ?_) (fun h => ?_)
    · have hkk : k = logB ∨ k = ackB := by
        apply hval.1
        cases e : (decide (k = logB) || decide (k = ackB)) with
        | true => rfl
        | false =>
          exfalso
          have h' : (true && true && true && (decide (k = logB) || decide (k = ackB)) && decide (fileN nm n (46 :: k) = nm ++ [46] ++ (dig6 n ++ 46 :: k)) && decide ((0 : Int) ≤ (n : Int))) = true := h
          rw [e] at h'
          simp at h'
      refine Cd.region ?_
      refine Seq.val (Runs.move rfl rfl) rfl rfl rfl ?_
      refine Seq.val (Runs.move rfl rfl) rfl rfl rfl ?_
      refine Seq.slice (vs := [_]) (s := 1) rfl rfl rfl Tryz.underlying81 (by kernel_rfl) (zero_int) (by omega) (by omega) ⟨rfl, trivial⟩ rfl rfl rfl ?_
      intro g75 w2 n75
      have e75 := Nat.le_trans bel.size n75.ge
      have l75 := Nat.lt_of_lt_of_le k0.lt n75.ge
      replace bel := bel.step n75.below
      replace k0 := k0.step n75.below
      replace own := own.step n75.below
      have k75 := n75.blk
      have hrx := Reads.blk (size := 1) k75 1 rfl
      refine Seq.append rfl rfl rfl Tryz.underlying81 (by kernel_rfl) zero_int rfl (by decide) (b := 8) (by kernel_rfl) own hrx (ones_nat [n]) bel.size (by simp only [maxLen]; omega) (by omega) rfl rfl rfl ?_
      intro v2 wb own2 ha
      have bel2 := bel.trans ha.below
      have k02 := k0.appNe own ha
      replace own2 : Own wb w5.heap.size 3 1 v2 (zs.length + 1) ((zs.map fun (n : Nat) => Value.int .i64 (n : Int)) ++ [n].map fun (n : Nat) => Value.int .i64 (n : Int)) := own2
      rw [← List.map_append] at own2
      clear bel own k75 hrx ha k0
      have bel := bel2
      have own := own2
      have k0 := k02
      clear bel2 own2 k02
      refine Seq.val (Runs.assign rfl rfl) rfl rfl rfl ?_
      refine Seq.nil ?_
      refine Post.weak (F' := [(0, _), (3, _), (5, _), (6, _), (7, _), (8, _), (9, _), (10, _), (11, _), (12, _), (17, _), (18, _), (19, _), (20, _), (72, _)]) ⟨rfl, rfl, rfl, rfl, rfl, rfl, rfl, rfl, rfl, rfl, rfl, rfl, rfl, rfl, rfl, trivial⟩ ?_
      refine Post.block_normal ?_
      refine Post.then_ ?_
      refine Cd.region ?_
      refine Seq.val (Runs.addI rfl rfl rfl (by omega) (by omega)) rfl rfl rfl ?_
      refine Seq.val (Runs.move rfl rfl) rfl rfl rfl ?_
      refine Seq.nil ?_
      refine Post.weak (F' := [(0, _), (3, _), (5, _), (6, _), (7, _), (8, _), (9, _), (10, _), (11, _), (12, _), (17, _), (18, _), (19, _), (20, _), (72, _)]) ⟨rfl, rfl, rfl, rfl, rfl, rfl, rfl, rfl, rfl, rfl, rfl, rfl, rfl, rfl, rfl, trivial⟩ ?_
      exact Post.round (j + 1, zs ++ [n], v2) ⟨rfl, rfl, rfl, int_at (by omega), rfl, trivial⟩ ⟨by simp only; omega, by simp only [List.length_append, List.length_singleton]; omega, fun m => by rw [hnj, numIn_more hn, ← hmem m]; simp [hkk], bel, k0, by simpa using own⟩ (by simp only; omega)
    · have hkk : ¬ (k = logB ∨ k = ackB) := by
        intro hkk
        have h' : (true && true && true && (decide (k = logB) || decide (k = ackB)) && decide (fileN nm n (46 :: k) = nm ++ [46] ++ (dig6 n ++ 46 :: k)) && decide ((0 : Int) ≤ (n : Int))) = false := h
        rw [hval.2 hkk, ← hsf, decide_eq_true rfl, decide_eq_true (by omega)] at h'
        cases h'
      refine Cd.skip ?_
      refine Post.block_normal ?_
      refine Post.then_ ?_
      refine Cd.region ?_
      refine Seq.val (Runs.addI rfl rfl rfl (by omega) (by omega)) rfl rfl rfl ?_
      refine Seq.val (Runs.move rfl rfl) rfl rfl rfl ?_
      refine Seq.nil ?_
      refine Post.weak (F' := [(0, _), (3, _), (5, _), (6, _), (7, _), (8, _), (9, _), (10, _), (11, _), (12, _), (17, _), (18, _), (19, _), (20, _), (72, _)]) ⟨rfl, rfl, rfl, rfl, rfl, rfl, rfl, rfl, rfl, rfl, rfl, rfl, rfl, rfl, rfl, trivial⟩ ?_
      exact Post.round (j + 1, zs, .slice A3 zs.length c3) ⟨rfl, rfl, rfl, int_at (by omega), rfl, trivial⟩ ⟨by simp only; omega, by simp only; omega, fun m => by rw [hnj, numIn_more hn, hmem m]; simp [hkk], bel, k0, own⟩ (by simp only; omega)
  · have hall : ∀ n, n ∈ zs ↔ NumIn nm (D.files.map (·.1)) n := fun n => by
      rw [hmem n, List.take_of_length_le (by omega)]
      unfold NumIn
      rw [hperm.mem_iff, hperm.mem_iff]
    refine Cd.exit ?_
    refine Post.then_exit ?_
    refine Post.round_exit ?_
    refine Post.block_exit ?_
    refine Post.then_ ?_
    refine Cd.seq ?_
    refine Cd.region ?_
    refine Seq.val (Runs.move rfl rfl) rfl rfl rfl ?_
    have hmap : ∀ l : List Nat, (l.map fun (n : Nat) => Value.int .i64 (n : Int)) = (l.map fun (n : Nat) => (n : Int)).map (Value.int .i64) := fun l => by rw [List.map_map]; rfl
    rw [hmap] at own
    refine Seq.call (Enters.func rfl rfl rfl (run_enter Tryz.func57 (by kernel_rfl) rfl)) rfl rfl rfl (sortI_any w5.heap.size c3 zs.length A3 (zs.map fun (n : Nat) => (n : Int)) _ own (by omega)) ?_
    clear own k0
    rintro e x1 ⟨rfl, own, hb1⟩
    refine ⟨_, rfl, ?_⟩
    replace bel := bel.trans hb1
    have hpress := press (zs := zs.map fun (n : Nat) => (n : Int))
    obtain ⟨Z, hZ⟩ : ∃ Z, Z = (zs.map fun (n : Nat) => (n : Int)).mergeSort fun x y => decide (x ≤ y) := ⟨_, rfl⟩
    rw [← hZ] at own hpress
    refine Seq.nil ?_
    refine Post.weak (F' := [(0, _), (3, _), (17, _), (18, _), (19, _), (20, _)]) ⟨rfl, rfl, rfl, rfl, rfl, rfl, trivial⟩ ?_
    refine Post.then_ ?_
    refine Cd.seq ?_
    refine Cd.region ?_
    refine Seq.val (Runs.move rfl rfl) rfl rfl rfl ?_
    refine Seq.call (Enters.func rfl rfl rfl (run_enter Tryz.func58 (by kernel_rfl) rfl)) rfl rfl rfl (compI_any w5.heap.size c3 zs.length A3 Z _ own (by omega)) ?_
    clear own
    rintro e x2 ⟨v2, rfl, own, hb2⟩
    refine ⟨_, rfl, ?_⟩
    replace bel := bel.trans hb2
    refine Seq.val (Runs.assign rfl rfl) rfl rfl rfl ?_
    refine Seq.nil ?_
    refine Post.weak (F' := [(0, _), (2, _), (3, _), (17, _), (18, _), (19, _), (20, _)]) ⟨rfl, rfl, rfl, rfl, rfl, rfl, rfl, trivial⟩ ?_
    refine Post.then_ ?_
    refine Cd.ret ?_
    refine Post.end1 rfl rfl (.inl rfl) ?_
    have hback : ((Lib.compact Z).map Int.toNat).map (fun (n : Nat) => (n : Int)) = Lib.compact Z := by
      rw [List.map_map]
      conv => rhs; rw [← List.map_id (Lib.compact Z)]
      refine List.map_congr_left fun z hz => ?_
      obtain ⟨n, -, rfl⟩ := List.mem_map.1 ((hpress.2 z).1 hz)
      rfl
    refine ⟨v2, (Lib.compact Z).map Int.toNat, rfl, ?_, fun n => ?_, ?_, ?_⟩
    · have h1 := hpress.1
      rw [← hback] at h1
      exact (List.pairwise_map.1 h1).imp fun h => by omega
    · rw [← hall n]
      constructor
      · intro hn
        have h1 : (n : Int) ∈ Lib.compact Z := by rw [← hback]; exact List.mem_map.2 ⟨n, hn, rfl⟩
        obtain ⟨m, hm, e⟩ := List.mem_map.1 ((hpress.2 _).1 h1)
        obtain rfl : m = n := by omega
        exact hm
      · intro hn
        exact List.mem_map.2 ⟨(n : Int), (hpress.2 _).2 (List.mem_map.2 ⟨n, hn, rfl⟩), by simp⟩
    · rw [hmap, hback, List.length_map]
      exact own.mono hw5
    · exact bel0.trans (bel.mono hw5)
end Go.Proofs.YtnlepoplncjliaaGreatDoor
