/-
  disk.Disk: Names: the files' names, in order. No condition.
-/
import Derived.Test.YtnlepoplncjliaaGreatDoorWaS
namespace Go.Proofs.YtnlepoplncjliaaGreatDoor
open Go.RowKit Go.Maps Go.Sort

def anyR : Value → Option (DataW Unit × List MemPlace) := fun _ => some (.agg [], [])
def u8s (s : List Nat) : List UInt8 := s.map UInt8.ofNat
def leN (a b : List Nat) : Bool := decide (u8s a ≤ u8s b)
/-- Names in order. -/
def sortN (l : List (List Nat)) : List (List Nat) := l.mergeSort leN
theorem keyOf_nm (nm : List Nat) (h : nm.length ≤ maxLen) : keyOf Tryz.prog 9 (.string (strOf nm)) = some (.string (u8s nm)) := by
  have hk := Tryz.underlying9
  have h2 : (strOf nm).size ≤ maxLen := by rw [strOf_size]; exact h
  have h3 := strOf_data nm
  simp [keyOf, hk, mapKey, h2, u8s, h3]
theorem Mp.owns {w : World} {m : Nat} {l : List (List Nat × Nat)} (h : Mp w m l) (hl : ∀ p ∈ l, p.1.length ≤ maxLen) (hn : l.length ≤ maxLen) : ∃ D0 : DataW Unit, w.ownsMap Tryz.prog 9 anyR m l.length D0 ∧ (strKeys D0).Perm (l.map fun p => u8s p.1) ∧ Maps.size D0 = l.length := by
  obtain ⟨es, clk, h1, h2, h3⟩ := h.ex
  have hsz : es.size = l.length := by have := congrArg List.length h3; simpa using this
  have hrd : ∀ x ∈ es.toList, ∃ p ∈ l, x.key = .string (strOf p.1) := fun x hx => by
    have : x.key ∈ es.toList.map (·.key) := List.mem_map.2 ⟨x, hx, rfl⟩
    rw [kv_key h3] at this
    obtain ⟨p, hp, e⟩ := List.mem_map.1 this
    exact ⟨p, hp, e.symm⟩
  have hrd2 : ∀ x ∈ es.toList, ∃ y, WideElems.rd Tryz.prog 9 anyR x = some y := fun x hx => by
    obtain ⟨p, hp, e⟩ := hrd x hx
    obtain ⟨key, val, born⟩ := x
    simp only at e
    subst e
    exact ⟨_, WideElems.rd_mk (keyOf_nm p.1 (hl p hp)) rfl⟩
  refine ⟨.map ((es.toList.map (WideElems.rg Tryz.prog 9 anyR)).foldr DataW.insert []), ⟨es, clk, h1, ⟨by omega, h2, hrd2⟩, by omega, rfl⟩, ?_, ?_⟩
  · show (((es.toList.map (WideElems.rg Tryz.prog 9 anyR)).foldr DataW.insert []).map fun p => Go.strOf p.1).Perm _
    refine ((WideShapes.sorted_perm _).map _).trans ?_
    rw [List.map_map]
    have : (es.toList.map ((fun p : Lit × DataW Unit => Go.strOf p.1) ∘ WideElems.rg Tryz.prog 9 anyR)) = l.map fun p => u8s p.1 := by
      apply List.ext_getElem?
      intro i
      rw [List.getElem?_map, List.getElem?_map]
      have h4 := kv_get h3 i
      cases hx : es.toList[i]? with
      | none =>
        rw [hx] at h4
        cases hp : l[i]? with
        | none => rfl
        | some p => rw [hp] at h4; cases h4
      | some x =>
        rw [hx] at h4
        cases hp : l[i]? with
        | none => rw [hp] at h4; cases h4
        | some p =>
          rw [hp] at h4
          simp only [Option.map_some, Option.some.injEq, kv, Prod.mk.injEq] at h4
          have hk := keyOf_nm p.1 (hl p (List.mem_of_getElem? hp))
          obtain ⟨key, val, born⟩ := x
          simp only at h4
          obtain ⟨rfl, -⟩ := h4
          have := WideElems.rg_of (WideElems.rd_mk (R := anyR) (val := val) (born := born) hk rfl)
          simp only [Option.map_some, Function.comp, this]
          rfl
    rw [this]
  · show ((es.toList.map (WideElems.rg Tryz.prog 9 anyR)).foldr DataW.insert []).length = _
    rw [length_sorted]
    simp [hsz]
theorem enc_nm (nm : List Nat) : encStr (u8s nm) = .string (strOf nm) := rfl
theorem sorted_nm {l : List (List Nat × Nat)} {ss D : List (List UInt8)} (h1 : ss.Perm D) (h2 : D.Perm (l.map fun p => u8s p.1)) : (ss.mergeSort fun x y => decide (x ≤ y)).map encStr = Ts (sortN (l.map (·.1))) := by
  have h3 : ss.mergeSort (fun x y => decide (x ≤ y)) = (l.map fun p => u8s p.1).mergeSort (fun x y => decide (x ≤ y)) := mergeSort_of_perm (h1.trans h2)
  have h4 : (l.map fun p => u8s p.1) = (l.map (·.1)).map u8s := by rw [List.map_map]; rfl
  have h5 : ((l.map (·.1)).mergeSort leN).map u8s = ((l.map (·.1)).map u8s).mergeSort (fun x y => decide (x ≤ y)) := List.map_mergeSort (fun a _ b _ => rfl)
  rw [h3, h4, ← h5]
  unfold Ts sortN
  rw [List.map_map]
  rfl
theorem names_any (B g0 : Nat) (D : Dk) (w : World) (h : DkAt w B g0 D) :
    Calls Tryz.prog 31 #[.pointer (some ⟨g0, 0, none⟩)] w fun e w' => ∃ v, e = .returned v ∧ Own w' w.heap.size 9 1 v D.files.length (Ts (sortN (D.files.map (·.1)))) ∧ Grow w w' := by
  obtain ⟨m, l, F, c1, c2, dk⟩ := h
  have k0 := dk.k
  have bel := Below.refl w.heap.size w
  have hlen : l.length = D.files.length := by rw [dk.fl]; unfold fsOf; rw [List.length_map]
  have hmost := dk.ok.most
  have hnames : D.files.map (·.1) = l.map (·.1) := by rw [dk.fl, fs_names]
  obtain ⟨D0, hown, hperm, hsize⟩ := dk.mp.owns (fun p hp => by
    have := dk.ok.fil (p.1, F p.2) (by rw [dk.fl]; exact List.mem_map.2 ⟨p, hp, rfl⟩)
    have := this.2.2.2
    simp only at this
    simp only [maxLen]
    omega) (by simp only [maxLen]; omega)
  have hmax : Maps.size D0 ≤ maxLen := by rw [hsize]; simp only [maxLen]; omega
  have hbytes : Maps.size D0 * 16 ≤ 140737488355328 := by rw [hsize]; omega
  have hbl := hown.lt
  have hseq : SeqGives Fence.wide 2 Tryz.prog 76 #[.pointer (some ⟨w.heap.size, 0, none⟩)] encStr (fun ss => ss.Perm (strKeys D0)) (Maps.size D0) (w.alloc (.cells #[.map (some m)] 75)) :=
    AnyZ.keys_gives (ρ := shKeys_ren) { shKeys with } Fence.wide _ trivial rfl (by omega) w.heap.size m l.length D0 _ (by simp) (by simp) (by
      obtain ⟨es, clock, hb, Ft, hs, hD⟩ := hown
      exact ⟨es, clock, (Below.heap_alloc _ _ m hbl).trans hb, Ft, hs, hD⟩)
  have hsrt : AnyZ.SortsIn Tryz.prog shSorted_ren Fence.wide 4 :=
    ⟨fun blk off cap ss W hH hblk hsz => callsIn_wide.2 (AnyM.slices_Sort_string shSortS blk off cap ss W hH hblk hsz), fun p cap W => callsIn_wide.2 (AnyM.slices_Sort_string_none shSortS p cap W)⟩
  have cK := callsIn_wide.1 (AnyZ.keys_in shKeys Fence.wide 5 trivial rfl (some m) w)
  have cS := callsIn_wide.1 (AnyZ.sorted_in shSorted Fence.wide 5 trivial trivial trivial trivial rfl (by omega) hsrt (enters_of Tryz.func75 (by kernel_rfl) rfl) 76 #[.pointer (some ⟨w.heap.size, 0, none⟩)] trivial (enters_of Tryz.func76 (by kernel_rfl) rfl) _ _ hmax hbytes _ hseq)
  refine Calls.start 11 Tryz.func31 rfl rfl rfl ?_
  refine Cd.seq ?_
  refine Cd.region ?_
  refine Seq.val (Runs.assign rfl rfl) rfl rfl rfl ?_
  refine Seq.nil ?_
  refine Post.weak (F' := [(0, _), (2, _)]) ⟨rfl, rfl, trivial⟩ ?_
  refine Post.then_ ?_
  refine Cd.seq ?_
  refine Cd.seq ?_
  refine Cd.region ?_
  refine Seq.val (Runs.move rfl rfl) rfl rfl rfl ?_
  refine Seq.val (Runs.eqlP rfl rfl rfl Tryz.underlying26) rfl rfl rfl ?_
  refine Seq.nil ?_
  refine Post.weak (F' := [(0, _), (2, _), (4, _)]) ⟨rfl, rfl, rfl, trivial⟩ ?_
  refine Post.then_ ?_
  refine Cd.condF rfl rfl ?_
  refine Cd.skip ?_
  refine Post.then_ ?_
  refine Cd.seq ?_
  refine Cd.region ?_
  refine Seq.val (Runs.move rfl rfl) rfl rfl rfl ?_
  refine Seq.val (Runs.nilCheck rfl rfl) rfl rfl rfl ?_
  refine Seq.val (Runs.fieldB 1 rfl rfl Tryz.underlying77 rfl (by kernel_rfl)) rfl rfl rfl ?_
  refine Seq.val (Runs.loadB rfl rfl Tryz.underlying75 rfl k0 rfl) rfl rfl rfl ?_
  refine Seq.call (Enters.func rfl rfl rfl (run_enter Tryz.func52 (by kernel_rfl) rfl)) rfl rfl rfl (cK) ?_
  rintro e x ⟨rfl, rfl⟩
  refine ⟨_, rfl, ?_⟩
  refine Seq.call (Enters.func rfl rfl rfl (run_enter Tryz.func51 (by kernel_rfl) rfl)) rfl rfl rfl (cS) ?_
  rintro e w2 ⟨v, ss, rfl, hS, hrow, hnil, hb⟩
  refine ⟨_, rfl, ?_⟩
  have hb2 : Below w.heap.size w w2 := ((Below.refl _ w).alloc (Nat.le_refl _) _).trans (hb.mono (by simp))
  have hlen2 : ss.length = D.files.length := by
    have h1 := (hS.trans hperm).length_eq
    rw [List.length_map] at h1
    omega
  have hown2 : Own w2 w.heap.size 9 1 v D.files.length (Ts (sortN (D.files.map (·.1)))) := by
    have h1 : w2.ownsRow w.heap.size 9 1 v ss.length ((ss.mergeSort fun x y => decide (x ≤ y)).map encStr) := ownsRow_base_a hrow (by simp)
    rw [sorted_nm hS hperm, hlen2, ← hnames] at h1
    exact ⟨h1⟩
  clear bel
  have bel := hb2
  refine Seq.val (Runs.assign rfl rfl) rfl rfl rfl ?_
  refine Seq.nil ?_
  refine Post.weak (F' := [(0, _), (2, _), (4, _)]) ⟨rfl, rfl, rfl, trivial⟩ ?_
  refine Post.then_ ?_
  refine Cd.ret ?_
  refine Post.end1 rfl rfl (.inl rfl) ?_
  exact ⟨v, rfl, hown2, bel⟩
end Go.Proofs.YtnlepoplncjliaaGreatDoor
