/-
  What a row's laid variables give the walks; arguments opened. No condition.
-/
import Derived.Test.YtnlepoplncjliaaGreatDoorWdB
import Derived.Test.YtnlepoplncjliaaGreatDoorTOpen
import Derived.ProofKit
import Derived.LaidMore
import Derived.OpenShut
import Derived.Lib.LaidTab
import Derived.Shelf.Vars
namespace Go.Proofs.YtnlepoplncjliaaGreatDoor
open Go.ChangeShapes Go.WideShapes Go.ChangeAt Go.Deep Go.RowKit

theorem laid_tail {P : Program} {W : World} {x : String × DataW Unit} {rest : List (String × DataW Unit)} (h : laidMet P (x :: rest) W) : laidMet P rest W := by
  obtain ⟨ps, ⟨g, t, cs, fuel, p, q, h1, h2, h3, h4, h5, rfl⟩, hn, hi⟩ := h
  exact ⟨q, h5, (List.nodup_append.1 hn).2.1, fun b off hm => hi b off (List.mem_append_right _ hm)⟩
def laidL : List (String × DataW Unit) := Rows.walFullRow.laid
theorem gv_of_laid {W : World} (h : laidMetH Tryz.prog laidL W) (hs : W.ShapedOpen Tryz.prog) : Gv W := by
  rw [MakeChecks.laidMetH_plain _ _ _ (by kernel_rfl)] at h
  have h3 := laid_tail (laid_tail (show laidMet Tryz.prog (_ :: _ :: _) W from h))
  have tn : Lib.TabIs Tryz.prog W "debenture/crc.nibbles" .u32 (nibs.map Int.ofNat) := Lib.tabIs_of_head (rest := _) (g := 3) (by kernel_rfl) (by kernel_rfl) Tryz.underlying195 Tryz.underlying65 (by kernel_rfl) (by kernel_rfl) h3
  have tp : Lib.TabIs Tryz.prog W "internal/strconv.uint64pow10" .u64 Lib.pow10Tab := Lib.tabIs_of_head (rest := _) (g := 4) (by kernel_rfl) (by kernel_rfl) Tryz.underlying214 Tryz.underlying97 (by kernel_rfl) (by kernel_rfl) (laid_tail h3)
  refine ⟨⟨fun i hi => ?_⟩, tp, cell_of_shapedOpen_int (t := 3) (zero := #[.int .i64 0]) hs (of_decide_eq_true (by kernel_rfl)) (by kernel_rfl) rfl (by kernel_rfl) (by kernel_rfl) Tryz.underlying3⟩
  rw [tn.cell (g := 3) (by kernel_rfl) i (by rw [List.length_map]; exact hi)]
  congr 2
  have : ∀ i, i < 16 → (nibs.map Int.ofNat).getD i 0 = ((nibs.getD i 0 : Nat) : Int) := by decide
  exact this i hi
theorem choose_at {α : Type} (n : Nat) (p : Nat → α → Prop) (h : ∀ i, i < n → ∃ f, p i f) : ∃ l : List α, l.length = n ∧ ∀ i f, l[i]? = some f → p i f := by
  induction n with
  | zero => exact ⟨[], rfl, fun i f hf => by simp at hf⟩
  | succ n ih =>
    obtain ⟨l, hl, hp⟩ := ih fun i hi => h i (by omega)
    obtain ⟨x, hx⟩ := h n (by omega)
    refine ⟨l ++ [x], by simp [hl], fun i f hf => ?_⟩
    rcases Nat.lt_or_ge i l.length with h1 | h1
    · rw [List.getElem?_append_left h1] at hf
      exact hp i f hf
    · rw [List.getElem?_append_right h1] at hf
      have h2 : i - l.length = 0 := by
        rcases Nat.eq_zero_or_pos (i - l.length) with h2 | h2
        · exact h2
        · rw [List.getElem?_eq_none (by simp; omega)] at hf; cases hf
      rw [h2] at hf
      injection hf with hf
      subst hf
      have : i = n := by omega
      subst this
      exact hx
theorem strOf_of (s : ByteArray) : ∃ l : List Nat, s = strOf l ∧ Byt l ∧ l.length = s.size := by
  refine ⟨s.data.toList.map UInt8.toNat, ?_, fun c hc => ?_, by rw [List.length_map]; rfl⟩
  · have : (s.data.toList.map UInt8.toNat).map UInt8.ofNat = s.data.toList := by
      rw [List.map_map]
      conv => rhs; rw [← List.map_id s.data.toList]
      exact List.map_congr_left fun b _ => by simp
    unfold strOf
    rw [this]
  · obtain ⟨b, -, rfl⟩ := List.mem_map.1 hc
    exact b.toNat_lt
set_option maxRecDepth 100000 in
theorem open_texts {H : Type} {enc : TypeId × Value → H} {W : World} {base : Nat} {v : Value} {d : DataW H} {p : List MemPlace} (hv : Value.okWide Tryz.prog W .any base 22 v)
    (h : DataW.Trod enc Tryz.prog W 0 (fun _ => true) true 22 v d p) : ∃ A len cap l, v = .slice A len cap ∧ Reads W W.heap.size 1 A len (Ts l) ∧ ∀ x ∈ l, Byt x := by
  obtain ⟨A, len, cap, rfl⟩ := okWide_slice Tryz.underlying22 hv
  obtain ⟨m, hm⟩ := h
  rcases open_slice Tryz.underlying22 hm with ⟨hcs, -⟩ | ⟨a, len', cap', k, n, D, Pl, hcs, -, hlc, -, hk, -, hf⟩
  · simp [Value.cells] at hcs
    obtain ⟨rfl, rfl, rfl⟩ := hcs
    exact ⟨none, 0, 0, [], rfl, Reads.none_, by simp⟩
  · simp only [if_true] at hk
    simp [Value.cells] at hcs
    obtain ⟨rfl, rfl, rfl⟩ := hcs
    have hC : Tryz.prog.cellsOf 9 = 1 := by kernel_rfl
    rw [hC] at hf
    obtain ⟨l, hl, hp⟩ := choose_at len (fun i x => Byt x ∧ W.cell? (a.add i) = some (.string (strOf x))) fun i hi => by
      obtain ⟨cs', hc, ht⟩ := hf i (by omega)
      obtain ⟨s, rfl, -, hwf⟩ := DataW.trod_string Tryz.underlying9 ht
      obtain ⟨_, _, hat⟩ := World.cells?_some hc
      have h0 := hat (i := 0) (by omega)
      obtain ⟨x, rfl, hx, -⟩ := strOf_of s
      refine ⟨x, hx, ?_⟩
      rw [add_of_add, Nat.mul_one, Nat.add_zero] at h0
      rw [h0]; rfl
    refine ⟨some a, len, cap, l, rfl, ⟨by rw [Ts_len]; omega, fun hpos => ⟨a, rfl, ?_, fun j u hu => ?_⟩⟩, fun x hx => ?_⟩
    · obtain ⟨x, hx⟩ : ∃ x, l[0]? = some x := ⟨_, List.getElem?_eq_getElem (by omega)⟩
      have := World.block_lt_of_cell? W _ (hp 0 x hx).2
      rwa [block_of_add] at this
    · rw [get_Ts] at hu
      cases hx : l[j]? with
      | none => rw [hx] at hu; cases hu
      | some x =>
        rw [hx] at hu
        injection hu with hu
        rw [← hu]
        exact (hp j x hx).2
    · obtain ⟨j, hj, rfl⟩ := List.getElem_of_mem hx
      exact (hp j _ (List.getElem?_eq_getElem hj)).1
set_option maxRecDepth 100000 in
theorem open_u16 {W : World} {base t : Nat} {v : Value} (hu : Tryz.prog.underlying t = some (.int .u16)) (hv : Value.okWide Tryz.prog W .any base t v) : ∃ n : Nat, v = .int .u16 (n : Int) ∧ n < 65536 := by
  obtain ⟨n, rfl, h0, h1⟩ := open_int hu hv
  have h2 : (0 : Int) ≤ n := h0
  have e : IntKind.u16.max = 65535 := by decide
  rw [e] at h1
  exact ⟨n.toNat, by rw [Int.toNat_of_nonneg h2], by omega⟩
/-- The wrap for rows that list variables, with what the world's shape says handed on. -/
theorem lift_laid {H : Type} {enc : TypeId × Value → H} {a : Assume} {C : Checked} {os : Os} {f : FuncId} {fn : Func} {s : ChangeSpec} {X : World → Array Value → Prop} {apart fresh handsOn again : Bool}
    (hX : ∀ (w w' : World) (args : Array Value), w.heap = w'.heap → X w args → X w' args) (own : ownKnob C.prog.godebug = none) (started : os.Started) (hi : C.prog.inits.idxOf? f = none) (hfn : C.prog.funcs[f]? = some fn)
    (wit : ∃ (w : World) (tape : Tape) (i : Input), w.os = os ∧ (w.forCall tape i).Shaped C.prog ∧ i.vars = [] ∧ Input.okWide C.prog (w.forCall tape i) .any w.heap.size f i ∧
      ((s.pre enc C.prog fn [] apart (w.forCall tape i).memory i.args ∧ X (w.forCall tape i).memory i.args) ∧ sizedMet enc C.prog fn (OpenSpec.ofChange s) apart (w.forCall tape i).memory i.args) ∧ a.holds C.prog (lone (Frame.enter C.prog f i.args .normal) [] (w.forCall tape i)))
    (walk : ∀ (W : World) (base : Nat) (args : Array Value) (ds gs : List (DataW H)) (before : List MemPlace), (∀ (j : Nat) t v, fn.params[j]? = some t → args[j]? = some v → Value.okWide C.prog W .any base t v) →
      DataW.Whole enc C.prog fn.params.toList s.vars apart W args.toList ds gs before → X W args → W.ShapedOpen C.prog →
      Calls C.prog f args W fun e W' => ∃ v, e = .returned v ∧ s.post enc C.prog fn apart fresh handsOn again W args v W') :
    ReturnsInHanded a C os f .any (fun w args => (s.pre enc C.prog fn [] apart w args ∧ X w args) ∧ sizedMet enc C.prog fn (OpenSpec.ofChange s) apart w args) (s.post enc C.prog fn apart fresh handsOn again) := by
  refine returnsInHanded_of_calls own started hi wit fun w tape i _ hsh _ hok hp _ => ?_
  obtain ⟨⟨⟨ds, gs, before, hw, -⟩, hx⟩, -⟩ := hp
  obtain ⟨_, _, _, fn', hfn', _, _, _, _, hval⟩ := hok
  obtain rfl : fn' = fn := Option.some.inj (hfn'.symm.trans hfn)
  refine (walk _ _ _ ds gs before hval (DataW.Whole.of_heap (by rfl) hw) (hX _ _ _ (by rfl) hx) hsh).mono fun e W' he => ?_
  obtain ⟨v, rfl, hp⟩ := he
  exact ChangeSpec.post_blind hp
theorem own : ownKnob Tryz.prog.godebug = none := by kernel_rfl
theorem laidOut : laidOutB Tryz.prog = true := by kernel_rfl
theorem door_met (os : Os) (args : Array Value) : laidMetH Tryz.prog laidL ((World.doorLaid Tryz.prog 67 os).forCall (fun _ _ => 0) ⟨#[], args, []⟩).memory :=
  laidMetH_of_parts3 (fuel := 8) (laidMet_of_run' 8 (by kernel_rfl) (by kernel_rfl)) (by kernel_rfl) (by kernel_rfl)
end Go.Proofs.YtnlepoplncjliaaGreatDoor
