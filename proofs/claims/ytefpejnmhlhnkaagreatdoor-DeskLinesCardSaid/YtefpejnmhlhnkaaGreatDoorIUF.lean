/-
  debenturelaw28's example (awake): it is so, in any world in which crc's table is as it was laid. Run by the kernel.
-/
import Derived.Test.YtefpejnmhlhnkaaGreatDoorIUE
import Derived.KernelRfl
set_option linter.unusedVariables false
namespace Go.Proofs.YtefpejnmhlhnkaaGreatDoor
open Go.RowKit
/-- crc's table. -/
def crcT : List Nat := [0x00000000, 0x105ec76f, 0x20bd8ede, 0x30e349b1, 0x417b1dbc, 0x5125dad3, 0x61c69362, 0x7198540d, 0x82f63b78, 0x92a8fc17, 0xa24bb5a6, 0xb21572c9, 0xc38d26c4, 0xd3d3e1ab, 0xe330a81a, 0xf36e6f75]
structure Nb (w : World) : Prop where
  es : ∃ x, w.cell? ⟨1, 0, none⟩ = some x ∧ x.oneCell' = true
  cell : ∀ i, i < 16 → w.cell? ⟨3, i, none⟩ = some (.int .u32 ((crcT.getD i 0 : Nat) : Int))
theorem Nb.lt {w : World} (h : Nb w) : 3 < w.heap.size := World.block_lt_of_cell? w _ (h.cell 0 (by omega))
theorem Nb.lt2 {w : World} (h : Nb w) : 1 < w.heap.size := by obtain ⟨x, hx, -⟩ := h.es; exact World.block_lt_of_cell? w _ hx
theorem Nb.below {w w' : World} {B : Nat} (h : Nb w) (hb : Below B w w') (hB : 3 < B) (hB2 : 1 < B) : Nb w' := ⟨by obtain ⟨x, hx, h1⟩ := h.es; exact ⟨x, (hb.cell hB2).trans hx, h1⟩, fun i hi => (hb.cell hB).trans (h.cell i hi)⟩
theorem Nb.step {w w' : World} (h : Nb w) (hb : Below w.heap.size w w') : Nb w' := h.below hb h.lt h.lt2
noncomputable def typs : RI.Tr (List TypeInfo) := RI.tabOf Tryz.prog.types.toList
noncomputable def fns : RI.Tr (List Func) := RI.tabOf Tryz.prog.funcs.toList
noncomputable def glb (b o : Nat) : Option RI.V := RI.cd (Nat.beq b 3) (RI.on (RI.nth crcT o) none fun n => some (.int .u32 (.ofNat n))) (RI.cd (Nat.beq b 1) (RI.cd (Nat.beq o 0) (some (.un 0)) none) none)
noncomputable def tb : RI.Tb := ⟨RI.tabAt typs, RI.tabAt fns, glb, fun t => Tryz.prog.stoodInHeld t⟩
noncomputable def ks (k : Nat) : Bool := or (Nat.beq k 428) (Nat.beq k 419)
noncomputable def nat : FuncId → List RI.V → RI.St → Option (RI.Oc RI.Rr) := RI.natv tb 289 664 9 ks
noncomputable def isTrue (o : RI.Oc RI.Rr) : Bool := match o with
  | .one r => (match r.v with
    | .bool b => b
    | _ => false)
  | _ => false
set_option maxRecDepth 1000000 in
theorem run28 : isTrue ((RI.both tb nat (fun _ _ _ => none) 1000000).c 5 [] ⟨.lf, 0⟩) = true := by kernel_rfl
set_option maxRecDepth 1000000 in
theorem fns_ok : RI.fsOkB Tryz.prog.funcs.toList = true := by kernel_rfl
noncomputable def nmsOkB (l : List Func) : Bool := @List.rec Func (fun _ => Bool) true (fun f _ ih => RI.an (RI.nt (f.name == "runtime.NumGoroutine")) ih) l
set_option maxRecDepth 1000000 in
theorem nms_ok : nmsOkB Tryz.prog.funcs.toList = true := by kernel_rfl
theorem nmsOkB_spec : ∀ {l : List Func}, nmsOkB l = true → ∀ f ∈ l, (f.name == "runtime.NumGoroutine") = false
  | [], _, f, hf => by simp at hf
  | x :: r, h, f, hf => by
    obtain ⟨h1, h2⟩ := RI.an_true (show RI.an (RI.nt (x.name == "runtime.NumGoroutine")) (nmsOkB r) = true from h)
    simp only [List.mem_cons] at hf
    rcases hf with rfl | hf
    · rw [RI.nt_eq] at h1
      simpa using h1
    · exact nmsOkB_spec h2 f hf
theorem fnsOk : RI.FnsOk tb := fun f fn c hf hb => by
  have h1 : Tryz.prog.funcs.toList[f]? = some fn := RI.tab_spec hf
  have hm := List.mem_of_getElem? h1
  exact ⟨nmsOkB_spec nms_ok fn hm, RI.fsOkB_spec fns_ok fn hm c hb⟩
set_option maxRecDepth 1000000 in
theorem info_at (t : Nat) (i : TypeInfo) (h : Tryz.prog.types[t]? = some i) : Tryz.prog.info? t = some i := by
  have hlt := (Array.getElem?_eq_some_iff.1 h).1
  unfold Tables.info?
  rw [if_pos hlt]
  exact h
/-- What the one symbol stands for: an error of strconv's. -/
def ρx (x : Value) : RI.Env := ⟨fun _ => x, fun _ => False⟩
set_option maxRecDepth 1000000 in
theorem ctx_of {w : World} (hg : Nb w) {x : Value} (hx : w.cell? ⟨1, 0, none⟩ = some x) (h1 : x.oneCell' = true) : RI.Ctx Tryz.prog tb (ρx x) w := by
  refine ⟨fun t i h => info_at t i ?_, fun f fn h => ?_, fun b o v h => ?_, fun n => h1, fun t h => h, by kernel_rfl⟩
  · have : Tryz.prog.types.toList[t]? = some i := RI.tab_spec h
    simpa using this
  · have : Tryz.prog.funcs.toList[f]? = some fn := RI.tab_spec h
    simpa using this
  · have h : RI.cd (Nat.beq b 3) (RI.on (RI.nth crcT o) none fun n => some (.int .u32 (.ofNat n))) (RI.cd (Nat.beq b 1) (RI.cd (Nat.beq o 0) (some (.un 0)) none) none) = some v := h
    cases hb : Nat.beq b 3 with
    | true =>
      rw [hb, RI.cd_true] at h
      have hb := RI.beq_iff.1 hb
      subst hb
      replace h := RI.on_some h
      obtain ⟨n, hn, h⟩ := h
      injection h with h
      subst h
      rw [RI.nth_eq] at hn
      have hlt : o < 16 := (List.getElem?_eq_some_iff.1 hn).1
      refine ⟨hg.lt, _, hg.cell o hlt, fun L => ?_⟩
      rw [List.getD_eq_getElem?_getD, hn]
      exact .int _ _
    | false =>
      rw [hb, RI.cd_false] at h
      replace h := RI.cd_some h
      obtain ⟨h2, h⟩ := h
      replace h := RI.cd_some h
      obtain ⟨h3, h⟩ := h
      injection h with h
      subst h
      have h2 := RI.beq_iff.1 h2
      have h3 := RI.beq_iff.1 h3
      subst h2 h3
      exact ⟨hg.lt2, x, hx, fun L => .un 0⟩
theorem isTrue_spec {o : RI.Oc RI.Rr} {p : RI.Rr → Prop} (h : isTrue o = true) (hp : ∀ s, p ⟨.bool true, s⟩) : o.all p := by
  unfold isTrue at h
  split at h
  · rename_i r
    split at h
    · rename_i b hb
      subst h
      obtain ⟨v, s⟩ := r
      simp only at hb
      subst hb
      exact hp s
    · cases h
  · cases h
set_option maxRecDepth 1000000 in
theorem awake28_any (w : World) (hg : Nb w) : Calls Tryz.prog 5 #[] w fun e w' => e = .returned (.bool true) ∧ Below w.heap.size w w' := by
  obtain ⟨x0, hx0, h10⟩ := hg.es
  have hn : ∀ ρ' : RI.Env, (ρx x0).un = ρ'.un → RI.SpecN Tryz.prog ρ' w nat := fun ρ' hu => by
    refine RI.natv_spec ((ctx_of hg hx0 h10).env hu) (fun k hk => ?_) idxCon Tryz.func289 (by kernel_rfl) rfl
    unfold ks at hk
    cases h1 : Nat.beq k 428 with
    | true => rw [RI.beq_iff.1 h1]; exact sortCon_file
    | false =>
      rw [h1] at hk
      have hk : Nat.beq k 419 = true := hk
      rw [RI.beq_iff.1 hk]
      exact sortCon_bool
  have hdn : ∀ ρ' : RI.Env, (ρx x0).un = ρ'.un → RI.SpecDn Tryz.prog ρ' w (fun _ _ _ => none) := fun ρ' hu f l s s' L xs w K _ _ h => by cases h
  have hrun := (RI.both_run (ctx_of hg hx0 h10) fnsOk hn hdn 1000000).2 5 [] ⟨.lf, 0⟩ (fun _ _ => none) [] w (fun x w' => x = .bool true ∧ Below w.heap.size w w')
    ⟨Below.refl _ _, fun _ _ _ => rfl, fun b o g h => (by cases h), fun b h => h.elim, fun b o h => (by cases h), fun b b' o o' x x' _ h => (by cases h)⟩ .nil
    (isTrue_spec run28 fun s L' x w' _ hr hx => by cases hx; exact ⟨rfl, hr.below⟩)
  have hen : (callFunc 5 #[]).run Tryz.prog w = .ok (.enter 5 #[]) w := enters_of Tryz.func5 (by kernel_rfl) rfl #[] w
  rcases hrun with ⟨g, w1, h1, h2⟩ | ⟨x, w1, h1, -⟩
  · have h1 : (callFunc 5 #[]).run Tryz.prog w = .ok (.enter g #[]) w1 := h1
    rw [hen] at h1
    injection h1 with h1 h3
    injection h1 with h1
    subst h1 h3
    exact h2.mono fun e w' ⟨x, he, hx, hb⟩ => ⟨by rw [he, hx], hb⟩
  · have h1 : (callFunc 5 #[]).run Tryz.prog w = .ok (.value x) w1 := h1
    rw [hen] at h1
    injection h1 with h1
    cases h1
end Go.Proofs.YtefpejnmhlhnkaaGreatDoor
