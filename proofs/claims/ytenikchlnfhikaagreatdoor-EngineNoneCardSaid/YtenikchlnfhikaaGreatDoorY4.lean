/-
  Texts that were joined: IM2. Conditions: what each theorem names.
-/
import Derived.Test.YtenikchlnfhikaaGreatDoorY3
import Derived.Sort.KeysCollected
import Derived.MapKept
import Derived.Lib.Bytealg
import Derived.Laws.Externs
set_option linter.unusedSectionVars false
set_option linter.unusedVariables false
set_option linter.unusedSimpArgs false
set_option linter.unusedVariables false
namespace Go.RI
open Go Go.RowKit
section
variable {P : Program} {w : World} {a : Act} {ops : Array Oper} {K : Act → World → Prop}
/-! a region that draws its order: any order -/
/-- Whichever operation that is ready goes next. -/
def AnyG (P : Program) (ops : Array Oper) (K : Act → World → Prop) : Nat → Array Bool → Act → World → Prop
  | 0, listed, a, w => Region.ready .any ops listed = [] ∧ K a w
  | n + 1, listed, a, w => (Region.ready .any ops listed = [] → K a w) ∧ ∀ i ∈ Region.ready .any ops listed, Goes1 P ops i (AnyG P ops K n (listed.setIfInBounds i true)) a w
theorem Reg.mono {l : List Nat} {K K' : Act → World → Prop} (h : Reg P ops l K a w) (hk : ∀ a w, K a w → K' a w) : Reg P ops l K' a w := fun b k cs => let ⟨a', w', h1, h2⟩ := h b k cs; ⟨a', w', hk _ _ h1, h2⟩
theorem anyG_sound : ∀ (fuel t : Nat) (listed : Array Bool) (a : Act) (w : World), AnyG P ops K fuel listed a w → Reg P ops (Region.linearise.go .any ops fuel t listed []) K a w := by
  intro fuel
  induction fuel with
  | zero => intro t listed a w h; simpa [Region.linearise.go] using reg_nil h.2
  | succ fuel ih =>
    intro t listed a w h
    obtain ⟨h₀, h₁⟩ := h
    simp only [Region.linearise.go]
    change Reg P ops (match (Region.ready .any ops listed)[t % (Region.ready .any ops listed).length]? with
      | some i => Region.linearise.go .any ops fuel (t / (Region.ready .any ops listed).length) (listed.setIfInBounds i true) [i]
      | none => [].reverse) K a w
    cases hi : (Region.ready .any ops listed)[t % (Region.ready .any ops listed).length]? with
    | none =>
      have hnil : Region.ready .any ops listed = [] := by
        cases hr : Region.ready .any ops listed with
        | nil => rfl
        | cons x xs =>
          rw [hr] at hi
          have hlt : t % (x :: xs).length < (x :: xs).length := Nat.mod_lt _ (by simp)
          simp at hi
          simp at hlt
          omega
      simpa using reg_nil (h₀ hnil)
    | some i =>
      simp only []
      rw [linearise_go_acc, List.reverse_singleton, List.singleton_append]
      exact reg_cons ((h₁ i (List.mem_of_getElem? hi)).mono fun a w h => ih _ _ a w h)
theorem wp_any {id : Nat} {Q : Exit → Act → World → Prop} (hm : P.follows .mixedOrders = true) (h : AnyG P ops (Q .normal) ops.size (Array.replicate ops.size false) a { w with drawn := w.drawn + 1 }) : (Code.region id ops true).wp P Q a w := fun b k cs => by
  have hr := anyG_sound ops.size (w.tape w.drawn (.order b.fn id)) _ _ _ h
  obtain ⟨a', w', h1, h2⟩ := hr b k cs
  refine ⟨.normal, a', w', h1, .of_steps (.one step_region_draw) ?_⟩
  simp only [Region.schedule, hm, Bool.true_or, if_true]
  exact h2
/-- Edges lead back. -/
def BackE (ops : Array Oper) : Prop := ∀ i o, ops[i]? = some o → ∀ e ∈ o.after.toList, Region.binds .any e = true → e.on < i
/-- None is ready: all are listed. -/
theorem ready_nil (hb : BackE ops) {listed : Array Bool} (hs : listed.size = ops.size) (h : Region.ready .any ops listed = []) : ∀ i, i < ops.size → listed[i]? = some true := by
  intro i
  induction i using Nat.strongRecOn with
  | _ i ih =>
    intro hi
    cases hl : listed[i]? with
    | none => rw [Array.getElem?_eq_none_iff] at hl; omega
    | some b =>
      cases b with
      | true => rfl
      | false =>
        exfalso
        have : i ∈ Region.ready .any ops listed := by
          unfold Region.ready
          rw [List.mem_filter]
          refine ⟨by simpa using hi, ?_⟩
          have ho : ops[i]? = some ops[i] := Array.getElem?_eq_getElem hi
          simp only [Array.getD_eq_getD_getElem?, hl, ho, Option.getD_some, Bool.not_false, Bool.true_and, Option.map_some]
          rw [Array.all_eq_true_iff_forall_mem]
          intro e he
          cases hbe : Region.binds .any e with
          | false => simp
          | true =>
            have hlt := hb i _ ho e (by simpa using he) hbe
            simp [ih e.on hlt (by omega)]
        rw [h] at this
        cases this
/-- One that is ready waits for none that is not listed. -/
theorem ready_ahead {listed : Array Bool} {i : Nat} (h : i ∈ Region.ready .any ops listed) : i < ops.size ∧ listed[i]?.getD true = false ∧ ∀ o, ops[i]? = some o → ∀ e ∈ o.after.toList, Region.binds .any e = true → listed[e.on]? = some true := by
  unfold Region.ready at h
  rw [List.mem_filter] at h
  obtain ⟨h1, h2⟩ := h
  have hi : i < ops.size := by simpa using h1
  have ho : ops[i]? = some ops[i] := Array.getElem?_eq_getElem hi
  simp only [Array.getD_eq_getD_getElem?, ho, Option.getD_some, Option.map_some, Bool.and_eq_true, Bool.not_eq_true'] at h2
  refine ⟨hi, h2.1, fun o ho' e he hbe => ?_⟩
  rw [ho] at ho'
  injection ho' with ho'
  subst ho'
  have := h2.2
  rw [Array.all_eq_true_iff_forall_mem] at this
  have := this e (by simpa using he)
  rw [hbe] at this
  cases hl : listed[e.on]? with
  | none => rw [hl] at this; simp at this
  | some b => rw [hl] at this; simp at this; rw [this]
end
end Go.RI
namespace Go.RI
open Go Go.RowKit
/-! operations that only read -/
def Keeps (s : St) (r : Rv) : Prop := ∀ v s', r = .ok v s' → s' = s
section
variable {s : St} {T : Tb} {m : Fm}
theorem Keeps.no : Keeps s .no := fun v s' h => by cases h
theorem Keeps.ok {v : V} : Keeps s (.ok v s) := fun v s' h => by injection h with _ h; exact h.symm
theorem Keeps.on {α : Type} {o : Option α} {b : Rv} {k : α → Rv} (hb : Keeps s b) (h : ∀ a, Keeps s (k a)) : Keeps s (Go.RI.on o b k) := by
  cases o with
  | none => exact hb
  | some a => exact h a
theorem Keeps.cd {c : Bool} {a b : Rv} (ha : Keeps s a) (hb : Keeps s b) : Keeps s (Go.RI.cd c a b) := by
  cases c
  · exact hb
  · exact ha
theorem Keeps.sN {n : Nat} {k : Nat → Rv} (h : ∀ n, Keeps s (k n)) : Keeps s (Go.RI.sN n k) := by rw [sN_eq]; exact h n
theorem Keeps.sI {n : Int} {k : Int → Rv} (h : ∀ n, Keeps s (k n)) : Keeps s (Go.RI.sI n k) := by rw [sI_eq]; exact h n
theorem Keeps.sB {n : Bool} {k : Bool → Rv} (h : ∀ n, Keeps s (k n)) : Keeps s (Go.RI.sB n k) := by rw [sB_eq]; exact h n
theorem Keeps.onInt {x : V} {b : Rv} {k : IntKind → Int → Rv} (hb : Keeps s b) (h : ∀ a c, Keeps s (k a c)) : Keeps s (Go.RI.onInt x b k) := by
  cases x <;> first | exact hb | exact h _ _
theorem Keeps.onBool {x : V} {b : Rv} {k : Bool → Rv} (hb : Keeps s b) (h : ∀ a, Keeps s (k a)) : Keeps s (Go.RI.onBool x b k) := by
  cases x <;> first | exact hb | exact h _
theorem Keeps.onStr {x : V} {b : Rv} {k : List Nat → Rv} (hb : Keeps s b) (h : ∀ a, Keeps s (k a)) : Keeps s (Go.RI.onStr x b k) := by
  cases x <;> first | exact hb | exact h _
theorem Keeps.onAgg {x : V} {b : Rv} {k : List V → Rv} (hb : Keeps s b) (h : ∀ a, Keeps s (k a)) : Keeps s (Go.RI.onAgg x b k) := by
  cases x <;> first | exact hb | exact h _
theorem Keeps.onTup {x : V} {b : Rv} {k : List V → Rv} (hb : Keeps s b) (h : ∀ a, Keeps s (k a)) : Keeps s (Go.RI.onTup x b k) := by
  cases x <;> first | exact hb | exact h _
theorem Keeps.onMp {x : V} {b : Rv} {k : Option Nat → Rv} (hb : Keeps s b) (h : ∀ a, Keeps s (k a)) : Keeps s (Go.RI.onMp x b k) := by
  cases x <;> first | exact hb | exact h _
theorem Keeps.onPtr {x : V} {b : Rv} {k : Pl → Rv} (hb : Keeps s b) (h : ∀ a, Keeps s (k a)) : Keeps s (Go.RI.onPtr x b k) := by
  cases x with
  | ptr p => cases p with
    | none => exact hb
    | some p => exact h p
  | _ => exact hb
theorem Keeps.onSl {x : V} {b : Rv} {k : Pl → Nat → Rv} (hb : Keeps s b) (h : ∀ a c, Keeps s (k a c)) : Keeps s (Go.RI.onSl x b k) := by
  cases x with
  | sl p n c => cases p with
    | none => exact hb
    | some p => exact h p n
  | sg p n c => exact h p n
  | _ => exact hb
theorem Keeps.onNat {x : V} {b : Rv} {k : Nat → Rv} (hb : Keeps s b) (h : ∀ a, Keeps s (k a)) : Keeps s (Go.RI.onNat x b k) := by
  cases x with
  | int kd i => cases i with
    | ofNat n => exact h n
    | negSucc n => exact hb
  | _ => exact hb
theorem Keeps.pAdd {p : Pl} {n : Nat} {k : Pl → Rv} (h : ∀ a, Keeps s (k a)) : Keeps s (Go.RI.pAdd p n k) := by rw [pAdd_eq]; exact h _
theorem Keeps.tk {α : Type} {n : Nat} {l : List α} {k : List α → Rv} (h : ∀ a, Keeps s (k a)) : Keeps s (Go.RI.tk n l k) := by rw [tk_eq]; exact h _
theorem Keeps.bif {c : Bool} {a b : Rv} (ha : Keeps s a) (hb : Keeps s b) : Keeps s (bif c then a else b) := by
  cases c
  · exact hb
  · exact ha
theorem lod_keeps {t : TypeId} {a : V} : Keeps s (lod T t a s) := by unfold lod; (repeat (first | exact Keeps.no | exact Keeps.ok | apply Keeps.on | apply Keeps.cd | apply Keeps.sN | apply Keeps.sI | apply Keeps.sB | apply Keeps.onNat | apply Keeps.onInt | apply Keeps.onBool | apply Keeps.onStr | apply Keeps.onAgg | apply Keeps.onTup | apply Keeps.onMp | apply Keeps.onPtr | apply Keeps.onSl | apply Keeps.pAdd | apply Keeps.tk | apply Keeps.bif | split | intro _))
theorem fldA_keeps {t : TypeId} {x : V} {f : Nat} : Keeps s (fldA T t x f s) := by unfold fldA; (repeat (first | exact Keeps.no | exact Keeps.ok | apply Keeps.on | apply Keeps.cd | apply Keeps.sN | apply Keeps.sI | apply Keeps.sB | apply Keeps.onNat | apply Keeps.onInt | apply Keeps.onBool | apply Keeps.onStr | apply Keeps.onAgg | apply Keeps.onTup | apply Keeps.onMp | apply Keeps.onPtr | apply Keeps.onSl | apply Keeps.pAdd | apply Keeps.tk | apply Keeps.bif | split | intro _))
theorem fld_keeps {t : TypeId} {x : V} {f : Nat} : Keeps s (fld T t x f s) := by unfold fld; (repeat (first | exact Keeps.no | exact Keeps.ok | apply Keeps.on | apply Keeps.cd | apply Keeps.sN | apply Keeps.sI | apply Keeps.sB | apply Keeps.onNat | apply Keeps.onInt | apply Keeps.onBool | apply Keeps.onStr | apply Keeps.onAgg | apply Keeps.onTup | apply Keeps.onMp | apply Keeps.onPtr | apply Keeps.onSl | apply Keeps.pAdd | apply Keeps.tk | apply Keeps.bif | split | intro _))
theorem idxA_keeps {t : TypeId} {x i : V} : Keeps s (idxA T t x i s) := by unfold idxA; (repeat (first | exact Keeps.no | exact Keeps.ok | apply Keeps.on | apply Keeps.cd | apply Keeps.sN | apply Keeps.sI | apply Keeps.sB | apply Keeps.onNat | apply Keeps.onInt | apply Keeps.onBool | apply Keeps.onStr | apply Keeps.onAgg | apply Keeps.onTup | apply Keeps.onMp | apply Keeps.onPtr | apply Keeps.onSl | apply Keeps.pAdd | apply Keeps.tk | apply Keeps.bif | split | intro _))
theorem idx_keeps {t : TypeId} {x i : V} : Keeps s (idx T t x i s) := by unfold idx; (repeat (first | exact Keeps.no | exact Keeps.ok | apply Keeps.on | apply Keeps.cd | apply Keeps.sN | apply Keeps.sI | apply Keeps.sB | apply Keeps.onNat | apply Keeps.onInt | apply Keeps.onBool | apply Keeps.onStr | apply Keeps.onAgg | apply Keeps.onTup | apply Keeps.onMp | apply Keeps.onPtr | apply Keeps.onSl | apply Keeps.pAdd | apply Keeps.tk | apply Keeps.bif | split | intro _))
theorem lkR_keeps {t : TypeId} {ok : Bool} {u : Option V} : Keeps s (lkR T t ok s u) := by unfold lkR; (repeat (first | exact Keeps.no | exact Keeps.ok | apply Keeps.on | apply Keeps.cd | apply Keeps.sN | apply Keeps.sI | apply Keeps.sB | apply Keeps.onNat | apply Keeps.onInt | apply Keeps.onBool | apply Keeps.onStr | apply Keeps.onAgg | apply Keeps.onTup | apply Keeps.onMp | apply Keeps.onPtr | apply Keeps.onSl | apply Keeps.pAdd | apply Keeps.tk | apply Keeps.bif | split | intro _))
theorem lkp_keeps {t : TypeId} {x k : V} {ok : Bool} : Keeps s (lkp T t x k ok s) := by
  unfold lkp
  exact Keeps.on Keeps.no fun q => Keeps.cd (Keeps.onMp Keeps.no fun r => Keeps.on lkR_keeps fun r => Keeps.on Keeps.no fun l => Keeps.on Keeps.no fun j => Keeps.on lkR_keeps fun j => Keeps.on Keeps.no fun e => lkR_keeps) Keeps.no
theorem pck_keeps {a b : Operand} {c : V} : Keeps s (pck m s a b c) := by unfold pck; (repeat (first | exact Keeps.no | exact Keeps.ok | apply Keeps.on | apply Keeps.cd | apply Keeps.sN | apply Keeps.sI | apply Keeps.sB | apply Keeps.onNat | apply Keeps.onInt | apply Keeps.onBool | apply Keeps.onStr | apply Keeps.onAgg | apply Keeps.onTup | apply Keeps.onMp | apply Keeps.onPtr | apply Keeps.onSl | apply Keeps.pAdd | apply Keeps.tk | apply Keeps.bif | split | intro _))
theorem mkF_keeps {f : Fn} {a b : List Operand} : Keeps s (mkF f m s a b) := by unfold mkF; (repeat (first | exact Keeps.no | exact Keeps.ok | apply Keeps.on | apply Keeps.cd | apply Keeps.sN | apply Keeps.sI | apply Keeps.sB | apply Keeps.onNat | apply Keeps.onInt | apply Keeps.onBool | apply Keeps.onStr | apply Keeps.onAgg | apply Keeps.onTup | apply Keeps.onMp | apply Keeps.onPtr | apply Keeps.onSl | apply Keeps.pAdd | apply Keeps.tk | apply Keeps.bif | split | intro _))
theorem nilC_keeps {x : V} : Keeps s (nilC x s) := by unfold nilC; (repeat (first | exact Keeps.no | exact Keeps.ok | apply Keeps.on | apply Keeps.cd | apply Keeps.sN | apply Keeps.sI | apply Keeps.sB | apply Keeps.onNat | apply Keeps.onInt | apply Keeps.onBool | apply Keeps.onStr | apply Keeps.onAgg | apply Keeps.onTup | apply Keeps.onMp | apply Keeps.onPtr | apply Keeps.onSl | apply Keeps.pAdd | apply Keeps.tk | apply Keeps.bif | split | intro _))
theorem Keeps.onIfc {x : V} {b : Rv} {k : TypeId → V → Rv} (hb : Keeps s b) (h : ∀ a c, Keeps s (k a c)) : Keeps s (Go.RI.onIfc x b k) := by
  rcases onIfc_or x b k with q | ⟨t, u, -, q⟩
  · rw [q]; exact hb
  · rw [q]; exact h t u
theorem slc_keeps {t : TypeId} {x : V} {lo hi mx : Option Operand} : Keeps s (slc T t x lo hi mx m s) := by unfold slc; (repeat (first | exact Keeps.no | exact Keeps.ok | apply Keeps.on | apply Keeps.cd | apply Keeps.sN | apply Keeps.sI | apply Keeps.sB | apply Keeps.onNat | apply Keeps.onInt | apply Keeps.onBool | apply Keeps.onStr | apply Keeps.onAgg | apply Keeps.onTup | apply Keeps.onMp | apply Keeps.onPtr | apply Keeps.onSl | apply Keeps.pAdd | apply Keeps.tk | apply Keeps.bif | split | intro _))
theorem asr_keeps {x : V} {t : TypeId} {ok : Bool} : Keeps s (asr T x t ok s) := by unfold asr; (repeat (first | exact Keeps.no | exact Keeps.ok | apply Keeps.on | apply Keeps.cd | apply Keeps.sN | apply Keeps.sI | apply Keeps.sB | apply Keeps.onNat | apply Keeps.onInt | apply Keeps.onBool | apply Keeps.onStr | apply Keeps.onAgg | apply Keeps.onTup | apply Keeps.onMp | apply Keeps.onPtr | apply Keeps.onSl | apply Keeps.pAdd | apply Keeps.tk | apply Keeps.bif | split | intro _))
theorem unR_keeps {op : UnOp} {x : V} : Keeps s (unR op x s) := by unfold unR; (repeat (first | exact Keeps.no | exact Keeps.ok | apply Keeps.on | apply Keeps.cd | apply Keeps.sN | apply Keeps.sI | apply Keeps.sB | apply Keeps.onNat | apply Keeps.onInt | apply Keeps.onBool | apply Keeps.onStr | apply Keeps.onAgg | apply Keeps.onTup | apply Keeps.onMp | apply Keeps.onPtr | apply Keeps.onSl | apply Keeps.pAdd | apply Keeps.tk | apply Keeps.bif | split | intro _))
theorem boolR_keeps {b : Bool} : Keeps s (boolR b s) := by unfold boolR; (repeat (first | exact Keeps.no | exact Keeps.ok | apply Keeps.on | apply Keeps.cd | apply Keeps.sN | apply Keeps.sI | apply Keeps.sB | apply Keeps.onNat | apply Keeps.onInt | apply Keeps.onBool | apply Keeps.onStr | apply Keeps.onAgg | apply Keeps.onTup | apply Keeps.onMp | apply Keeps.onPtr | apply Keeps.onSl | apply Keeps.pAdd | apply Keeps.tk | apply Keeps.bif | split | intro _))
theorem bopO_keeps {op : BinOp} {t : TypeId} {x y : Operand} {a b : V} : Keeps s (bopO T op t x y a b s) := by
  unfold bopO
  split
  · exact Keeps.on Keeps.no fun _ => boolR_keeps
  · exact Keeps.on Keeps.no fun _ => boolR_keeps
  · exact Keeps.no
theorem ent_keeps (h : ∀ b, Keeps s (entB b s)) {x : V} : Keeps s (ent x s) := by
  unfold ent
  refine Keeps.onPtr Keeps.no fun p => ?_
  cases p with
  | own b g o => exact Keeps.cd (h b) Keeps.no
  | var b o => exact Keeps.no
theorem intR_keeps {k : IntKind} {i : Int} : Keeps s (intR k i s) := by unfold intR; (repeat (first | exact Keeps.no | exact Keeps.ok | apply Keeps.on | apply Keeps.cd | apply Keeps.sN | apply Keeps.sI | apply Keeps.sB | apply Keeps.onNat | apply Keeps.onInt | apply Keeps.onBool | apply Keeps.onStr | apply Keeps.onAgg | apply Keeps.onTup | apply Keeps.onMp | apply Keeps.onPtr | apply Keeps.onSl | apply Keeps.pAdd | apply Keeps.tk | apply Keeps.bif | split | intro _))
theorem bitR_keeps {f : Nat → Nat → Nat} {k : IntKind} {a b : Int} : Keeps s (bitR f k a b s) := by
  cases a <;> cases b <;> first | exact Keeps.cd (Keeps.sN fun _ => Keeps.ok) Keeps.no | exact intR_keeps
theorem iop_keeps {op : BinOp} {k : IntKind} {a b : Int} : Keeps s (iop op k a b s) := by
  cases op <;> first | exact Keeps.no | exact intR_keeps | exact boolR_keeps | exact bitR_keeps | exact Keeps.cd Keeps.no intR_keeps
theorem shl_keeps {k : IntKind} {a b : Int} : Keeps s (shl k a b s) := by
  cases b with
  | ofNat n => exact Keeps.cd intR_keeps Keeps.no
  | negSucc n => exact Keeps.no
theorem shr_keeps {k : IntKind} {a b : Int} : Keeps s (shr k a b s) := by
  cases b with
  | ofNat n =>
    refine Keeps.cd ?_ Keeps.no
    cases a with
    | ofNat a => exact Keeps.sN fun _ => Keeps.ok
    | negSucc a => exact Keeps.sN fun _ => Keeps.ok
  | negSucc n => exact Keeps.no
theorem bopI_keeps {op : BinOp} {k k' : IntKind} {a b : Int} : Keeps s (bopI op k a k' b s) := by
  unfold bopI
  exact Keeps.cd (Keeps.cd iop_keeps Keeps.no) (Keeps.cd shl_keeps shr_keeps)
theorem app_keeps {a y : List Nat} {k : List Nat → Rv} (h : ∀ l, Keeps s (k l)) : Keeps s (app a y k) := by rw [app_eq]; exact h _
theorem sop_keeps {op : BinOp} {a b : List Nat} : Keeps s (sop op a b s) := by
  cases op <;> first | exact Keeps.no | exact boolR_keeps | exact Keeps.cd (app_keeps fun _ => Keeps.ok) Keeps.no
theorem bop_keeps {op : BinOp} {t : TypeId} {x y : Operand} {a b : V} : Keeps s (bop T op t x y a b s) := by
  unfold bop
  exact Keeps.onInt (Keeps.onStr bopO_keeps fun _ => Keeps.onStr Keeps.no fun _ => sop_keeps) fun _ _ => Keeps.onInt Keeps.no fun _ _ => bopI_keeps
theorem lnO_keeps {d : TypeDesc} {x : V} : Keeps s (lnO T s d x) := by
  unfold lnO
  split
  · exact Keeps.ok
  · split
    · exact Keeps.ok
    · exact Keeps.no
  · exact Keeps.ok
  · exact Keeps.ok
  · exact Keeps.on Keeps.no fun _ => Keeps.sN fun _ => Keeps.ok
  · exact Keeps.ok
  · split
    · exact Keeps.sN fun _ => Keeps.ok
    · exact Keeps.no
  · exact Keeps.no
theorem lnV_keeps {ts : List TypeId} {x : V} : Keeps s (lnV T s ts x) := by
  unfold lnV
  refine Keeps.onStr (Keeps.on Keeps.no fun d => Keeps.onSl lnO_keeps fun _ n => ?_) fun l => ?_
  · cases d <;> first | exact Keeps.ok | exact Keeps.no
  · split
    · exact Keeps.sN fun _ => Keeps.ok
    · exact Keeps.no
theorem mmG_keeps {mx : Bool} : ∀ {l : List V} {x : V}, Keeps s (mmG mx s x l)
  | [], x => by
    unfold mmG
    split
    · exact Keeps.ok
    · exact Keeps.no
  | y :: r, x => by
    unfold mmG
    split
    · exact Keeps.cd mmG_keeps mmG_keeps
    · exact Keeps.no
end
end Go.RI
namespace Go.RI
open Go Go.RowKit
section
variable {s : St} {T : Tb} {m : Fm}
theorem Keeps.putL : ∀ {x : List V} {n : Nat} {l : List V} {k : List V → Rv}, (∀ l, Keeps s (k l)) → Keeps s (Go.RI.putL x n l k)
  | [], n, l, k, h => by unfold Go.RI.putL; exact h _
  | x :: r, 0, [], k, h => by unfold Go.RI.putL; exact h _
  | x :: r, 0, y :: l, k, h => by unfold Go.RI.putL; exact Keeps.putL fun _ => h _
  | x :: r, n + 1, l, k, h => by unfold Go.RI.putL; exact Keeps.putL fun _ => h _
theorem fillS_keeps {fs : List Field} : ∀ {ps : List (Nat × Operand)} {cs : List V}, Keeps s (fillS T fs ps m cs s)
  | [], cs => by unfold fillS; exact Keeps.ok
  | (i, x) :: r, cs => by
    unfold fillS
    exact Keeps.on Keeps.no fun f => Keeps.on Keeps.no fun v => Keeps.on Keeps.no fun n => Keeps.cd (Keeps.putL fun l => fillS_keeps) Keeps.no
theorem fillA_keeps {n : Nat} : ∀ {ps : List (Nat × Operand)} {cs : List V} {k : List V → Rv}, (∀ l, Keeps s (k l)) → Keeps s (fillA n ps m cs k)
  | [], cs, k, h => by unfold fillA; exact h _
  | (i, x) :: r, cs, k, h => by
    unfold fillA
    exact Keeps.on Keeps.no fun v => Keeps.cd (Keeps.putL fun l => fillA_keeps h) Keeps.no
theorem bldS_keeps {t : TypeId} {ps : List (Nat × Operand)} : Keeps s (bldS T t ps m s) := by
  unfold bldS
  split
  · exact Keeps.cd fillS_keeps Keeps.no
  · split
    · exact fillA_keeps fun _ => Keeps.ok
    · exact Keeps.no
  · exact Keeps.no
theorem entR_keeps {b : Nat} : ∀ {l : List Me}, Keeps s (entR b l s)
  | [] => Keeps.no
  | e :: r => by unfold entR; exact Keeps.bif Keeps.ok entR_keeps
theorem entB_keeps {b : Nat} : Keeps s (entB b s) := by
  unfold entB
  split
  · exact Keeps.on Keeps.no fun q => Keeps.cd entR_keeps Keeps.no
  · exact Keeps.no
/-- As it was, or with one new thing. -/
def MkOr (s : St) (r : Rv) : Prop := ∀ v s', r = .ok v s' → s' = s ∨ ∃ ob : Ob, ob.g = 0 ∧ s' = ⟨s.h.put s.nx ob, s.nx + 1⟩
theorem Keeps.mkOr {r : Rv} (h : Keeps s r) : MkOr s r := fun v s' e => .inl (h v s' e)
theorem MkOr.no : MkOr s .no := Keeps.no.mkOr
theorem MkOr.on {α : Type} {o : Option α} {b : Rv} {k : α → Rv} (hb : MkOr s b) (h : ∀ a, MkOr s (k a)) : MkOr s (Go.RI.on o b k) := by
  cases o with
  | none => exact hb
  | some a => exact h a
theorem MkOr.cd {c : Bool} {a b : Rv} (ha : MkOr s a) (hb : MkOr s b) : MkOr s (Go.RI.cd c a b) := by
  cases c
  · exact hb
  · exact ha
theorem MkOr.onNat {x : V} {b : Rv} {k : Nat → Rv} (hb : MkOr s b) (h : ∀ a, MkOr s (k a)) : MkOr s (Go.RI.onNat x b k) := by
  cases x with
  | int kd i => cases i with
    | ofNat n => exact h n
    | negSucc n => exact hb
  | _ => exact hb
theorem MkOr.putL : ∀ {x : List V} {n : Nat} {l : List V} {k : List V → Rv}, (∀ l, MkOr s (k l)) → MkOr s (Go.RI.putL x n l k)
  | [], n, l, k, h => by unfold Go.RI.putL; exact h _
  | x :: r, 0, [], k, h => by unfold Go.RI.putL; exact h _
  | x :: r, 0, y :: l, k, h => by unfold Go.RI.putL; exact MkOr.putL fun _ => h _
  | x :: r, n + 1, l, k, h => by unfold Go.RI.putL; exact MkOr.putL fun _ => h _
theorem fillA_mkOr {n : Nat} : ∀ {ps : List (Nat × Operand)} {cs : List V} {k : List V → Rv}, (∀ l, MkOr s (k l)) → MkOr s (fillA n ps m cs k)
  | [], cs, k, h => by unfold fillA; exact h _
  | (i, x) :: r, cs, k, h => by
    unfold fillA
    exact MkOr.on MkOr.no fun v => MkOr.cd (MkOr.putL fun l => fillA_mkOr h) MkOr.no
theorem rep_mkOr {z : List V} : ∀ {n : Nat} {k : List V → Rv}, (∀ l, MkOr s (k l)) → MkOr s (rep z n k)
  | 0, k, h => h _
  | n + 1, k, h => by unfold rep; exact rep_mkOr fun _ => h _
theorem mk_mkOr {t : TypeId} {l : List V} {fz : Nat} {k : Nat → St → Rv} (hk : ∀ b S, ∃ v, k b S = .ok v S) : MkOr s (mk s t l fz k) := by
  intro v s' e
  rw [mk_eq] at e
  obtain ⟨u, hu⟩ := hk s.nx ⟨s.h.put s.nx (.row t l.length 0 fz (wrT l 0 .lf)), s.nx + 1⟩
  rw [hu] at e
  obtain ⟨-, e⟩ := ok_inj e
  exact .inr ⟨_, rfl, e.symm⟩
theorem mkO_mkOr {o : Ob} (ho : o.g = 0) {k : Nat → St → Rv} (hk : ∀ b S, ∃ v, k b S = .ok v S) : MkOr s (mkO s o k) := by
  intro v s' e
  rw [mkO_eq] at e
  obtain ⟨u, hu⟩ := hk s.nx ⟨s.h.put s.nx o, s.nx + 1⟩
  rw [hu] at e
  obtain ⟨-, e⟩ := ok_inj e
  exact .inr ⟨_, ho, e.symm⟩
theorem bldL_mkOr {t : TypeId} {n : Nat} {ps : List (Nat × Operand)} : MkOr s (bldL T t n ps m s) := by
  unfold bldL
  split
  · refine MkOr.on MkOr.no fun w => MkOr.on MkOr.no fun z => MkOr.cd (MkOr.cd ?_ (rep_mkOr fun cs => fillA_mkOr fun cs => mk_mkOr fun b S => ⟨_, rfl⟩)) MkOr.no
    cases ps with
    | nil => exact mk_mkOr fun b S => ⟨_, rfl⟩
    | cons _ _ => exact MkOr.no
  · exact MkOr.no
theorem mkS_mkOr {t : TypeId} {a b : V} : MkOr s (mkS T t a b s) := by
  unfold mkS
  split
  · refine MkOr.on MkOr.no fun n => MkOr.on MkOr.no fun c => MkOr.on MkOr.no fun z => MkOr.on MkOr.no fun i => MkOr.cd (rep_mkOr fun cs => mk_mkOr fun b S => ?_) MkOr.no
    cases Nat.beq n c
    · exact ⟨_, rfl⟩
    · exact ⟨_, rfl⟩
  · exact MkOr.no
theorem mkC_mkOr {t : TypeId} {n : V} : MkOr s (mkC T t n s) := by
  unfold mkC
  exact MkOr.on MkOr.no fun b => MkOr.onNat MkOr.no fun n => MkOr.cd (mkO_mkOr rfl fun b S => ⟨_, rfl⟩) MkOr.no
theorem strV_keeps : ∀ {l : List V} {k : List Nat → Rv}, (∀ l, Keeps s (k l)) → Keeps s (strV .no l k)
  | [], k, h => h _
  | v :: l, k, h => by
    show Keeps s (onInt v .no fun kd i => cd (Nat.beq (kn kd) 4) (@Int.rec (fun _ => Rv) (fun n => cd (Nat.blt n 256) (strV .no l fun r => k (n :: r)) .no) (fun _ => .no) i) .no)
    refine Keeps.onInt Keeps.no fun kd i => Keeps.cd ?_ Keeps.no
    cases i with
    | ofNat n => exact Keeps.cd (strV_keeps fun r => h _) Keeps.no
    | negSucc n => exact Keeps.no
theorem cnvB_keeps {e : TypeId} {p : Pl} {n : Nat} : Keeps s (cnvB T e p n s) := by
  unfold cnvB
  exact Keeps.cd (Keeps.on Keeps.no fun l => strV_keeps fun l => Keeps.ok) Keeps.no
theorem cnvU_keeps {t : TypeId} {p : Option Pl} {b : Bool} : Keeps s (cnvU T t p b s) := by
  unfold cnvU
  exact Keeps.on Keeps.ok fun p => Keeps.on Keeps.no fun q => Keeps.on Keeps.no fun n => Keeps.cd Keeps.no (Keeps.cd Keeps.ok Keeps.no)
/-- Made of a text's bytes, or as it was. -/
theorem cnv_or {a b : TypeId} {x : V} : Keeps s (cnv T a b x s) ∨ MkOr s (cnv T a b x s) := by
  unfold cnv
  cases und T a with
  | none => exact .inl Keeps.no
  | some da =>
    cases und T b with
    | none => exact .inl Keeps.no
    | some db =>
      simp only [Go.RI.on]
      split
      · exact .inl intR_keeps
      · exact .inl Keeps.ok
      · exact .inl (Keeps.cd Keeps.ok Keeps.no)
      · exact .inr (MkOr.cd (mk_mkOr fun b S => ⟨_, by rw [sN_eq]⟩) MkOr.no)
      · exact .inl (Keeps.cd Keeps.ok Keeps.no)
      · exact .inl cnvB_keeps
      · exact .inl cnvB_keeps
      · exact .inl cnvU_keeps
      · exact .inl cnvU_keeps
      · exact .inl Keeps.no
/-- What an operation that may float comes to. -/
noncomputable def rvOp (T : Tb) (m : Fm) (s : St) (o : Op) : Rv := match o with
  | .call c => tgt T m c Rv.no (fun _ _ => Rv.no) (fun b ts l => bltn T b ts l s)
  | o => opv o T m s
theorem bltn_keeps {b : Builtin} {ts : List TypeId} {l : List V} (hb : b = .len ∨ b = .min ∨ b = .max ∨ b = .cap) : Keeps s (bltn T b ts l s) := by
  rcases hb with rfl | rfl | rfl | rfl
  · show Keeps s (ol l .no fun a r => ol r (lnV T s ts a) fun _ _ => .no)
    rcases l with _ | ⟨a, _ | ⟨b, r⟩⟩
    · exact Keeps.no
    · exact lnV_keeps
    · exact Keeps.no
  · show Keeps s (mmV false s l)
    cases l with
    | nil => exact Keeps.no
    | cons x r => exact mmG_keeps
  · show Keeps s (mmV true s l)
    cases l with
    | nil => exact Keeps.no
    | cons x r => exact mmG_keeps
  · show Keeps s (bltO T .cap ts l s)
    rcases l with _ | ⟨a, _ | ⟨b, r⟩⟩
    · exact Keeps.no
    · cases a <;> first | exact Keeps.no | skip
      show Keeps s (match und1 T ts with
        | some (.slice _) => _
        | _ => .no)
      split
      · exact Keeps.ok
      · exact Keeps.no
    · cases a <;> exact Keeps.no
theorem isEff_call {c : Call} (h : isEff (.call c) = false) : ∃ b, c.callee = .builtin b ∧ (b = .len ∨ b = .min ∨ b = .max ∨ b = .cap) := by
  unfold isEff at h
  simp only at h
  split at h <;> first | (cases h; done) | exact ⟨_, by assumption, by simp⟩
/-- It leaves all as it is, or makes one thing. -/
theorem rvOp_or {o : Op} (hp : isEff o = false) : Keeps s (rvOp T m s o) ∨ ((isMk o = true ∨ ∃ a b x, o = .convert a b x) ∧ MkOr s (rvOp T m s o)) := by
  cases o <;> first | (cases hp; done) | (exact .inl Keeps.no) | skip
  · exact .inl (Keeps.on Keeps.no fun v => Keeps.ok)
  · exact .inl (Keeps.on Keeps.no fun v => Keeps.ok)
  · exact .inl (Keeps.on Keeps.no fun v => pck_keeps)
  · exact .inr ⟨.inl rfl, MkOr.on MkOr.no fun v => mk_mkOr fun b S => ⟨_, rfl⟩⟩
  · exact .inr ⟨.inl rfl, MkOr.on MkOr.no fun v => mk_mkOr fun b S => ⟨_, rfl⟩⟩
  · exact .inl bldS_keeps
  · exact .inr ⟨.inl rfl, bldL_mkOr⟩
  · exact .inl (Keeps.on Keeps.no fun v => lod_keeps)
  · exact .inl (Keeps.on Keeps.no fun v => nilC_keeps)
  · exact .inl (Keeps.on Keeps.no fun v => Keeps.on Keeps.no fun v => bop_keeps)
  · exact .inl (Keeps.on Keeps.no fun v => unR_keeps)
  · rename_i a b x
    show Keeps s (on (ev m x) .no fun v => cnv T a b v s) ∨ _ ∧ MkOr s (on (ev m x) .no fun v => cnv T a b v s)
    cases ev m x with
    | none => exact .inl Keeps.no
    | some v =>
      rcases cnv_or (T := T) (s := s) (a := a) (b := b) (x := v) with h | h
      · exact .inl h
      · exact .inr ⟨.inr ⟨a, b, x, rfl⟩, h⟩
  · exact .inl (Keeps.cd (Keeps.on Keeps.no fun v => Keeps.ok) Keeps.no)
  · exact .inl mkF_keeps
  · exact .inr ⟨.inl rfl, MkOr.cd (mkO_mkOr rfl fun b S => ⟨_, rfl⟩) MkOr.no⟩
  · exact .inr ⟨.inl rfl, MkOr.on MkOr.no fun v => mkC_mkOr⟩
  · exact .inr ⟨.inl rfl, MkOr.on MkOr.no fun v => MkOr.on MkOr.no fun v => mkS_mkOr⟩
  · exact .inl (Keeps.on Keeps.no fun v => slc_keeps)
  · exact .inl (Keeps.on Keeps.no fun v => fldA_keeps)
  · exact .inl (Keeps.on Keeps.no fun v => fld_keeps)
  · exact .inl (Keeps.on Keeps.no fun v => Keeps.on Keeps.no fun v => idxA_keeps)
  · exact .inl (Keeps.on Keeps.no fun v => Keeps.on Keeps.no fun v => idx_keeps)
  · exact .inl (Keeps.on Keeps.no fun v => Keeps.on Keeps.no fun v => lkp_keeps)
  · exact .inl (Keeps.on Keeps.no fun v => ent_keeps fun b => entB_keeps)
  · exact .inl (Keeps.on Keeps.no fun v => asr_keeps)
  · exact .inl (Keeps.on Keeps.no fun v => Keeps.onTup Keeps.no fun v => Keeps.on Keeps.no fun v => Keeps.ok)
  · rename_i c
    obtain ⟨b, hb, hb'⟩ := isEff_call hp
    refine .inl ?_
    show Keeps s (tgt T m c Rv.no (fun _ _ => Rv.no) (fun b ts l => bltn T b ts l s))
    unfold tgt
    rw [hb]
    exact Keeps.on Keeps.no fun l => bltn_keeps hb'
end
end Go.RI
namespace Go.RI
open Go Go.RowKit
section
variable {P : Program} {T : Tb} {ρ : Env} {w0 w : World} {L : Loc} {s s' : St} {m : Fm} {v : V} {r : Operand → Value} {o : Oper}
theorem rvOp_other {o : Op} (h : ∀ c, o ≠ .call c) : rvOp T m s o = opv o T m s := by
  cases o <;> first | rfl | exact absurd rfl (h _)
/-- What floats, run. -/
theorem pure_good (hc : Ctx P T ρ w0) (h : Rel ρ w0 L s w) (hr : Opd ρ L m r o.op.operands) (e : rvOp T m s o.op = .ok v s') : Good P ρ w0 L r o w v s' := by
  by_cases hop : ∃ c, o.op = .call c
  · obtain ⟨c, hop⟩ := hop
    have hrc : Opd ρ L m r c.operands := fun x hx => hr x (by rw [hop]; exact hx)
    have hex : ∀ W : World, (execOp r o).run P W = ((resolve r c o.type).run P W).andThen fun d W' => (invoke d.target d.args).run P W' := fun W => by
      unfold execOp
      simp only [hop, Sem.run_bind]
    rw [hop] at e
    replace e : tgt T m c Rv.no (fun _ _ => Rv.no) (fun b ts l => bltn T b ts l s) = .ok v s' := e
    rcases tgt_spec (ty := o.type) hc hrc Rv.no (fun _ _ => Rv.no) (fun b ts l => bltn T b ts l s) w with hb | ⟨f, l, xs, D, hb, -⟩ | ⟨b, l, xs, D, consts, hb, hl, hres, hinv⟩
    · rw [hb] at e
      cases e
    · rw [hb] at e
      cases e
    · rw [hb] at e
      obtain ⟨x, w', L', h1, h2, h3, h4⟩ := bltn_spec hc h hl (ty := o.type) (consts := consts) e
      rw [Array.toArray_toList] at h4
      exact ⟨x, w', L', h1, h2, h3, .inl (by rw [hex, hres, Result.andThen_ok, hinv, h4])⟩
  · rw [rvOp_other fun c q => hop ⟨c, q⟩] at e
    exact opv_good hc h hr e
/-- A new thing, perhaps with a draw. -/
def MadeD (P : Program) (ρ : Env) (w0 : World) (L : Loc) (r : Operand → Value) (o : Oper) (w : World) (s : St) (v : V) (s' : St) : Prop :=
  ∃ (ob : Ob) (vf : Nat → V), v = vf s.nx ∧ s' = ⟨s.h.put s.nx ob, s.nx + 1⟩ ∧ ob.g = 0 ∧ ∃ (co : Obj) (xf : Nat → Value) (sz n : Nat), (execOp r o).run P w = .ok (.value (xf w.heap.size)) (World.alloc { w with drawn := n } co) ∧
    ∀ b, L b 0 = none → w0.heap.size ≤ w.heap.size → RO ρ (L.put b 0 (w.heap.size, 0, sz)) w0.heap.size (World.alloc { w with drawn := n } co) b ob ∧ RV ρ (L.put b 0 (w.heap.size, 0, sz)) (vf b) (xf w.heap.size)
theorem Made.madeD (h : Made P ρ w0 L r o w s v s') : MadeD P ρ w0 L r o w s v s' := by
  obtain ⟨ob, vf, h1, h2, h3, co, xf, sz, h4, h5⟩ := h
  exact ⟨ob, vf, h1, h2, h3, co, xf, sz, w.drawn, h4, h5⟩
theorem conv_made {a b : TypeId} {x : Operand} (hc : Ctx P T ρ w0) (ho : o.op = .convert a b x) (hr : Opd ρ L m r o.op.operands) (e : on (ev m x) Rv.no (fun v => cnv T a b v s) = .ok v s') (hne : s'.nx ≠ s.nx) : MadeD P ρ w0 L r o w s v s' := by
  replace e := on_ok e
  obtain ⟨u, hu, e⟩ := e
  have hav := hr x (by simp [ho, Op.operands]) _ hu
  generalize hx : r x = z at hav
  have keep : Keeps s (cnv T a b u s) → False := fun k => hne (by rw [k v s' e])
  unfold cnv at e keep
  replace e := on_ok e
  obtain ⟨da, hda, e⟩ := e
  replace e := on_ok e
  obtain ⟨db, hdb, e⟩ := e
  have pa := und_spec hc hda
  have pb := und_spec hc hdb
  rw [hda, hdb] at keep
  simp only [Go.RI.on] at keep
  split at e
  · exact (keep intR_keeps).elim
  · exact (keep Keeps.ok).elim
  · exact (keep (Keeps.cd Keeps.ok Keeps.no)).elim
  · rename_i el l
    clear keep
    replace e := cd_ok e
    obtain ⟨h8, e⟩ := e
    rw [mk_eq, sN_eq] at e
    obtain ⟨rfl, rfl⟩ := ok_inj e
    cases hav with
    | str sb =>
      obtain ⟨cap, C, hcap, hC, hCs, hrun⟩ := run_strBytes (P := P) w el sb
      have hlen : (bytesV (sb.data.toList.map UInt8.toNat)).length = sb.size := by
        have := (rvs_bytesV (ρ := ρ) (L := L) sb.data.toList).length
        rw [this]
        simp
      have hlen2 : len (sb.data.toList.map UInt8.toNat) = sb.size := by rw [len_eq]; simp
      refine ⟨.row el (bytesV (sb.data.toList.map UInt8.toNat)).length 0 1 (wrT (bytesV (sb.data.toList.map UInt8.toNat)) 0 .lf), fun b => .sg (.own b 0 0) (len (sb.data.toList.map UInt8.toNat)) 1, rfl, rfl, rfl, .cells C el (cap, cap + 1), fun B => .slice (some ⟨B, 0, none⟩) sb.size cap, cap, w.drawn + 1, ?_, fun b hb hw => ⟨?_, ?_⟩⟩
      · unfold execOp
        simp only [ho, hx, Sem.run_bind, convert, run_underlying pa, run_underlying pb, Result.andThen_ok, run_underlying (u8K_spec hc h8)]
        rw [hrun]
        simp only [Result.andThen_ok, Sem.run_pure]
      · intro B base sz e
        rw [Loc.put_self] at e
        injection e with e
        injection e with e1 e2
        injection e2 with e2 e3
        subst e1 e2 e3
        refine ⟨hw, rfl, C, (cap, cap + 1), ?_, hCs, by omega, fun q => (by cases q), fun _ => .inl (Nat.le_refl _), fun i v hi hv' => ?_⟩
        · show (w.heap.push _)[w.heap.size]? = _
          simp
        · rw [wrT_get, if_pos (by omega)] at hv'
          obtain ⟨u, k1, k2⟩ := (rvs_bytesV (ρ := ρ) (L := L) sb.data.toList).get hv'
          exact ⟨u, by rw [Nat.zero_add, hC i u k1], k2.mono (Loc.le_put hb _)⟩
      · rw [hlen2]
        have := RV.sg (ρ := ρ) (n := sb.size) (w := 1) (o := 0) (c := cap) (Loc.put_self L b 0 (w.heap.size, 0, cap)) hcap (by omega)
        simpa using this
  · exact (keep (Keeps.cd Keeps.ok Keeps.no)).elim
  · exact (keep cnvB_keeps).elim
  · exact (keep cnvB_keeps).elim
  · exact (keep cnvU_keeps).elim
  · exact (keep cnvU_keeps).elim
  · cases e
/-- What floats and makes a thing. -/
theorem pure_made (hc : Ctx P T ρ w0) (hp : isEff o.op = false) (hr : Opd ρ L m r o.op.operands) (e : rvOp T m s o.op = .ok v s') (hne : s'.nx ≠ s.nx) : MadeD P ρ w0 L r o w s v s' := by
  rcases rvOp_or (T := T) (m := m) (s := s) hp with h | ⟨h | ⟨a, b, x, h⟩, -⟩
  · exact absurd (by rw [h v s' e]) hne
  · rw [rvOp_other fun c q => by rw [q] at h; cases h] at e
    exact (opv_made hc h hr e).madeD
  · rw [rvOp_other fun c q => by rw [q] at h; cases h] at e
    rw [h] at e
    exact conv_made hc h hr e hne
/-- What floats, of an operation that is wanted. -/
theorem op2_pure {cal : FuncId → List V → St → Oc Rr} (hp : isEff o.op = false) : op2 T cal o s m = fin o m (rvOp T m s o.op) := by
  unfold op2
  by_cases hop : ∃ c, o.op = .call c
  · obtain ⟨c, hop⟩ := hop
    rw [hop] at hp ⊢
    obtain ⟨b, hb, -⟩ := isEff_call hp
    show (match o.op with
    | .call c => opC T cal o s m c
    | .defer c => tgt T m c .no (fun f l => putD o (.tup []) s ⟨m.t, ⟨f, l⟩ :: m.d⟩) (fun _ _ _ => .no)
    | .next it str => on (ev m it) .no fun v => onPtr v .no fun p => onOwn p .no fun b g q => cd (an (Nat.beq g 0) (Nat.beq q 0)) (nxt o str b s m) .no
    | .select cs false => (match cs.toList with
      | [c] => sel T o c s m
      | _ => .no)
    | _ => .no) = _
    rw [hop]
    show tgt T m c .no (fun f l => (cal f l s).bnd fun r => putD o r.v r.s m) (fun b ts l => fin o m (bltn T b ts l s)) = fin o m (tgt T m c Rv.no (fun _ _ => Rv.no) (fun b ts l => bltn T b ts l s))
    unfold tgt
    rw [hb]
    cases evs m c.args.toList <;> rfl
  · rw [rvOp_other fun c q => hop ⟨c, q⟩]
    cases ho : o.op <;> first | rfl | (rw [ho] at hp; cases hp; done) | skip
    exact absurd ⟨_, ho⟩ hop
end
end Go.RI
namespace Go.RI
open Go Go.RowKit
/-! a region that draws its order: what stands in its text -/
theorem bit_eq (n i : Nat) : bit n i = n.testBit i := by
  rw [Nat.testBit_eq_decide_div_mod_eq]
  show Nat.beq (n / 2 ^ i % 2) 1 = _
  cases h : Nat.beq (n / 2 ^ i % 2) 1 with
  | true => rw [beq_iff.1 h]; rfl
  | false =>
    symm
    rw [decide_eq_false_iff_not]
    intro q
    rw [q] at h
    cases h
theorem bit_lor (a b i : Nat) : bit (Nat.lor a b) i = (bit a i || bit b i) := by
  rw [bit_eq, bit_eq, bit_eq]
  exact Nat.testBit_or a b i
theorem bit_pow (a i : Nat) : bit (Nat.pow 2 a) i = decide (a = i) := by
  rw [bit_eq]
  exact Nat.testBit_two_pow
theorem bit_zero (i : Nat) : bit 0 i = false := by rw [bit_eq]; simp
/-- All of one are in the other. -/
theorem land_bits {p d : Nat} (h : Nat.beq (Nat.land p d) p = true) (j : Nat) (hj : bit p j = true) : bit d j = true := by
  have h := beq_iff.1 h
  have : (p &&& d).testBit j = p.testBit j := congrArg (fun x => x.testBit j) h
  rw [Nat.testBit_and] at this
  rw [bit_eq] at hj ⊢
  rw [hj] at this
  simpa using this
theorem bits_land {p d : Nat} (h : ∀ j, bit p j = true → bit d j = true) : Nat.beq (Nat.land p d) p = true := by
  refine beq_iff.2 (Nat.eq_of_testBit_eq fun i => ?_)
  show (p &&& d).testBit i = p.testBit i
  rw [Nat.testBit_and]
  have := h i
  rw [bit_eq, bit_eq] at this
  cases hp : p.testBit i
  · rfl
  · rw [this hp]; rfl
theorem bits_full {k x j : Nat} (h : Nat.beq (Nat.succ x) (Nat.pow 2 k) = true) (hj : j < k) : bit x j = true := by
  have h : x + 1 = 2 ^ k := beq_iff.1 h
  have : x = 2 ^ k - 1 := by omega
  rw [bit_eq, this, Nat.testBit_two_pow_sub_one]
  simpa using hj
theorem aheadE_bit {t : Tr Nat} : ∀ {es : List Edge} {a j : Nat}, bit (aheadE t es a) j = true → bit a j = true ∨ ∃ e ∈ es, Region.binds .any e = true ∧ (e.on = j ∨ ∃ y, t.get e.on = some y ∧ bit y j = true)
  | [], a, j, h => .inl h
  | e :: r, a, j, h => by
    unfold aheadE at h
    rcases aheadE_bit h with h | ⟨e', h1, h2⟩
    · cases hb : Region.binds .any e with
      | false => rw [hb] at h; exact .inl h
      | true =>
        rw [hb, cond_true, bit_lor, bit_lor, bit_pow] at h
        simp only [Bool.or_eq_true, decide_eq_true_eq] at h
        rcases h with (h | h) | h
        · exact .inr ⟨e, by simp, hb, .inl h⟩
        · cases hg : t.get e.on with
          | none =>
            rw [hg] at h
            have h : bit 0 j = true := h
            rw [bit_zero] at h
            cases h
          | some y =>
            rw [hg] at h
            exact .inr ⟨e, by simp, hb, .inr ⟨y, hg, h⟩⟩
        · exact .inl h
    · exact .inr ⟨e', by simp [h1], h2⟩
theorem ahead_len : ∀ (l : List Oper) (i : Nat) (t : Tr Nat), (ahead l i t).length = l.length
  | [], _, _ => rfl
  | o :: r, i, t => by
    unfold ahead
    rw [sN_eq, Tr.set_put, List.length_cons, ahead_len r, List.length_cons]
theorem ahead_spec (G : Nat → Option Nat) : ∀ (l : List Oper) (i : Nat) (t : Tr Nat), (∀ n y, t.get n = some y → G n = some y) → (∀ (k x : Nat), (ahead l i t)[k]? = some x → G (i + k) = some x) →
    ∀ (k x : Nat), (ahead l i t)[k]? = some x → ∃ o : Oper, l[k]? = some o ∧ ∀ j, bit x j = true → ∃ e ∈ o.after.toList, Region.binds .any e = true ∧ (e.on = j ∨ ∃ y, G e.on = some y ∧ bit y j = true)
  | [], _, _, _, _, k, x, h => by simp [ahead] at h
  | o :: r, i, t, ht, hG, k, x, h => by
    unfold ahead at h hG
    rw [sN_eq, Tr.set_put] at h
    rw [sN_eq, Tr.set_put] at hG
    cases k with
    | zero =>
      have h : aheadE t o.after.toList 0 = x := by simpa using h
      refine ⟨o, rfl, fun j hj => ?_⟩
      rw [← h] at hj
      rcases aheadE_bit hj with hj | ⟨e, h1, h2, h3⟩
      · rw [bit_zero] at hj
        cases hj
      · exact ⟨e, h1, h2, h3.imp id fun ⟨y, h4, h5⟩ => ⟨y, ht _ _ h4, h5⟩⟩
    | succ k =>
      have h0 := hG 0 (aheadE t o.after.toList 0) (by simp)
      obtain ⟨o', h1, h2⟩ := ahead_spec G r (i + 1) (t.put i (aheadE t o.after.toList 0)) (fun n y hy => by
        rw [Tr.get_put] at hy
        by_cases c : n = i
        · rw [if_pos c] at hy
          injection hy with hy
          subst hy
          rw [c]
          exact h0
        · rw [if_neg c] at hy
          exact ht n y hy) (fun k x hk => by
        have := hG (k + 1) x (by simpa using hk)
        rwa [show i + (k + 1) = i + 1 + k by omega] at this) k x (by simpa using h)
      exact ⟨o', by simpa using h1, h2⟩
theorem tailAt_ge : ∀ (l : List Nat) (i k : Nat), k ≤ i → k ≤ tailAt l i k ∧ tailAt l i k ≤ i + l.length
  | [], i, k, h => ⟨Nat.le_refl _, by simpa [tailAt] using h⟩
  | x :: r, i, k, h => by
    unfold tailAt
    cases Nat.beq (Nat.succ x) (Nat.pow 2 i) with
    | true =>
      obtain ⟨h1, h2⟩ := tailAt_ge r (i + 1) k (by omega)
      exact ⟨h1, by simp only [List.length_cons]; exact Nat.le_trans h2 (by omega)⟩
    | false =>
      obtain ⟨h1, h2⟩ := tailAt_ge r (i + 1) (i + 1) (Nat.le_refl _)
      exact ⟨Nat.le_trans (by omega) h1, by simp only [List.length_cons]; exact Nat.le_trans h2 (by omega)⟩
theorem tailAt_spec : ∀ (l : List Nat) (i k : Nat), k ≤ i → ∀ (j x : Nat), l[j]? = some x → tailAt l i k ≤ i + j → Nat.beq (Nat.succ x) (Nat.pow 2 (i + j)) = true
  | [], i, k, h, j, x, e, _ => by simp at e
  | y :: r, i, k, h, j, x, e, hle => by
    unfold tailAt at hle
    cases hb : Nat.beq (Nat.succ y) (Nat.pow 2 i) with
    | true =>
      rw [hb, cond_true] at hle
      cases j with
      | zero =>
        simp at e
        subst e
        exact hb
      | succ j =>
        have := tailAt_spec r (i + 1) k (by omega) j x (by simpa using e) (by rw [show i + 1 + j = i + (j + 1) by omega]; exact hle)
        rwa [show i + 1 + j = i + (j + 1) by omega] at this
    | false =>
      rw [hb, cond_false] at hle
      cases j with
      | zero =>
        have := (tailAt_ge r (i + 1) (i + 1) (Nat.le_refl _)).1
        have hle : tailAt r (i + 1) (i + 1) ≤ i + 0 := hle
        omega
      | succ j =>
        have := tailAt_spec r (i + 1) (i + 1) (Nat.le_refl _) j x (by simpa using e) (by rw [show i + 1 + j = i + (j + 1) by omega]; exact hle)
        rwa [show i + 1 + j = i + (j + 1) by omega] at this
theorem mkIt_spec : ∀ (l : List Oper) (ps : List Nat) (i k : Nat) (a : It), (mkIt l ps i)[k]? = some a → a.i = i + k ∧ l[k]? = some a.o ∧ ps[k]? = some a.p ∧ a.e = isEff a.o.op
  | [], ps, i, k, a, h => by simp [mkIt] at h
  | o :: r, [], i, k, a, h => by simp [mkIt] at h
  | o :: r, p :: ps, i, 0, a, h => by
    simp [mkIt] at h
    subst h
    exact ⟨rfl, rfl, rfl, rfl⟩
  | o :: r, p :: ps, i, k + 1, a, h => by
    obtain ⟨h1, h2, h3, h4⟩ := mkIt_spec r ps (i + 1) k a (by simpa [mkIt] using h)
    exact ⟨by omega, by simpa using h2, by simpa using h3, h4⟩
theorem mkIt_len : ∀ (l : List Oper) (ps : List Nat) (i : Nat), ps.length = l.length → (mkIt l ps i).length = l.length
  | [], ps, i, h => rfl
  | o :: r, [], i, h => by simp at h
  | o :: r, p :: ps, i, h => by
    unfold mkIt
    rw [List.length_cons, mkIt_len r ps (i + 1) (by simpa using h), List.length_cons]
theorem chn_spec : ∀ {l : List It} {k : Nat}, chn l k = true → (∀ a ∈ l, a.e = true → ∀ j, bit k j = true → bit a.p j = true) ∧ ∀ (m n : Nat) (x y : It), m < n → l[m]? = some x → l[n]? = some y → x.e = true → y.e = true → bit y.p x.i = true
  | [], k, h => ⟨fun a ha => by simp at ha, fun m n x y _ h1 => by simp at h1⟩
  | a :: r, k, h => by
    unfold chn at h
    split at h
    · rename_i he
      obtain ⟨h1, h2⟩ := an_true h
      obtain ⟨h3, h4⟩ := chn_spec h2
      have h5 : ∀ j, bit k j = true → bit a.p j = true := fun j hj => by
        have h1 := beq_iff.1 h1
        have := congrArg (fun x => Nat.testBit x j) h1
        have h6 : (a.p &&& k).testBit j = k.testBit j := this
        rw [Nat.testBit_and] at h6
        rw [bit_eq] at hj ⊢
        rw [hj] at h6
        simpa using h6
      refine ⟨fun b hb hbe j hj => ?_, fun m n x y hlt hx hy hxe hye => ?_⟩
      · simp only [List.mem_cons] at hb
        rcases hb with rfl | hb
        · exact h5 j hj
        · exact h3 b hb hbe j (by rw [bit_lor, hj]; rfl)
      · cases n with
        | zero => omega
        | succ n =>
          cases m with
          | zero =>
            simp at hx
            subst hx
            exact h3 y (List.mem_of_getElem? (by simpa using hy)) hye _ (by rw [bit_lor, bit_pow]; simp)
          | succ m => exact h4 m n x y (by omega) (by simpa using hx) (by simpa using hy) hxe hye
    · rename_i he
      obtain ⟨h3, h4⟩ := chn_spec h
      refine ⟨fun b hb hbe j hj => ?_, fun m n x y hlt hx hy hxe hye => ?_⟩
      · simp only [List.mem_cons] at hb
        rcases hb with rfl | hb
        · rw [he] at hbe
          cases hbe
        · exact h3 b hb hbe j hj
      · cases n with
        | zero => omega
        | succ n =>
          cases m with
          | zero =>
            simp at hx
            subst hx
            rw [he] at hxe
            cases hxe
          | succ m => exact h4 m n x y (by omega) (by simpa using hx) (by simpa using hy) hxe hye
theorem bk1_spec {i : Nat} : ∀ {l : List Edge}, bk1 i l = true → ∀ e ∈ l, Region.binds .any e = true → e.on < i
  | [], _, e, he, _ => by simp at he
  | x :: r, h, e, he, hb => by
    unfold bk1 at h
    obtain ⟨h1, h2⟩ := an_true h
    simp only [List.mem_cons] at he
    rcases he with rfl | he
    · cases hl : Nat.blt e.on i with
      | true => exact Nat.blt_eq.mp hl
      | false =>
        rw [hl, cd_false, hb] at h1
        cases h1
    · exact bk1_spec h2 e he hb
theorem bkE_spec : ∀ {l : List Oper} {i : Nat}, bkE l i = true → ∀ k o, l[k]? = some o → ∀ e ∈ o.after.toList, Region.binds .any e = true → e.on < i + k
  | [], i, _, k, o, h, _, _, _ => by simp at h
  | x :: r, i, h, k, o, ho, e, he, hb => by
    unfold bkE at h
    obtain ⟨h1, h2⟩ := an_true h
    cases k with
    | zero =>
      simp at ho
      subst ho
      exact bk1_spec h1 e he hb
    | succ k =>
      have := bkE_spec h2 k o (by simpa using ho) e he hb
      simp only [Nat.succ_eq_add_one] at this
      omega
theorem pick_some {e : Bool} {dn : Nat} : ∀ {l : List It} {a : It}, pick e dn l = some a → a ∈ l ∧ a.e = e ∧ ∀ j, bit a.p j = true → bit dn j = true
  | [], a, h => by cases h
  | x :: r, a, h => by
    unfold pick at h
    cases hc : an (cd x.e e (nt e)) (Nat.beq (Nat.land x.p dn) x.p) with
    | true =>
      rw [hc, cond_true] at h
      injection h with h
      subst h
      obtain ⟨h1, h2⟩ := an_true hc
      refine ⟨by simp, ?_, fun j hj => land_bits h2 j hj⟩
      cases hx : x.e <;> rw [hx] at h1 <;> cases e <;> first | rfl | cases h1
    | false =>
      rw [hc, cond_false] at h
      obtain ⟨h1, h2⟩ := pick_some h
      exact ⟨by simp [h1], h2⟩
theorem pick_none {e : Bool} {dn : Nat} : ∀ {l : List It}, pick e dn l = none → ∀ a ∈ l, a.e = e → (∀ j, bit a.p j = true → bit dn j = true) → False
  | [], _, a, ha, _, _ => by simp at ha
  | x :: r, h, a, ha, he, hb => by
    unfold pick at h
    cases hc : an (cd x.e e (nt e)) (Nat.beq (Nat.land x.p dn) x.p) with
    | true => rw [hc, cond_true] at h; cases h
    | false =>
      rw [hc, cond_false] at h
      simp only [List.mem_cons] at ha
      rcases ha with rfl | ha
      · rw [bits_land hb] at hc
        cases hx : a.e <;> rw [hx] at hc he <;> subst he <;> cases hc
      · exact pick_none h a ha he hb
theorem rid_eq {i : Nat} : ∀ {l : List It} {k : List It → Oc R}, l.Pairwise (fun a b => a.i ≠ b.i) → rid i l k = k (l.filter fun a => !Nat.beq a.i i)
  | [], k, _ => rfl
  | a :: r, k, hp => by
    rw [List.pairwise_cons] at hp
    unfold rid
    cases h : Nat.beq a.i i with
    | true =>
      have h' := beq_iff.1 h
      rw [cond_true, List.filter_cons, h]
      simp only [Bool.not_true, Bool.false_eq_true, if_false]
      rw [List.filter_eq_self.2 fun b hb => ?_]
      have := hp.1 b hb
      cases hb' : Nat.beq b.i i with
      | true => exact absurd (h'.trans (beq_iff.1 hb').symm) this
      | false => rfl
    | false =>
      rw [cond_false, rid_eq (k := fun r => k (a :: r)) hp.2, List.filter_cons, h]
      rfl
theorem named_op {o : Oper} {all : List Oper} {t : Nat} (h : Operand.tmp t ∈ o.op.operands) : t ∈ named o all := by
  unfold named
  rw [List.mem_append]
  refine .inl (List.mem_filterMap.2 ⟨.tmp t, by simpa using h, rfl⟩)
theorem named_guard {o : Oper} {ops : Array Oper} {q : Nat × Bool} {oj : Oper} {t : Nat} (h1 : o.guard = some q) (h2 : ops[q.1]? = some oj) (h3 : oj.dst = some t) : t ∈ named o ops.toList := by
  unfold named
  rw [List.mem_append, h1]
  refine .inr ?_
  obtain ⟨j, b⟩ := q
  have : nth ops.toList j = some oj := by rw [nth_eq]; simpa using h2
  simp [this, h3]
/-- What a region's text is like. -/
structure Txt (ops : Array Oper) (its : List It) (n : Nat) : Prop where
  at_ : ∀ k a, its[k]? = some a → a.i = k ∧ ops[k]? = some a.o ∧ a.e = isEff a.o.op ∧ k < n
  has : ∀ k, k < n → ∃ a, its[k]? = some a
  le : n ≤ ops.size
  slots : ∀ a ∈ its, ∀ d, a.o.dst = some d → ∀ b ∈ its, (a.i = b.i → d ∉ named b.o ops.toList) ∧ (a.i ≠ b.i → b.o.dst ≠ some d ∧ (bit b.p a.i = true ∨ d ∉ named b.o ops.toList))
  chain : ∀ (m k : Nat) (x y : It), m < k → its[m]? = some x → its[k]? = some y → x.e = true → y.e = true → bit y.p x.i = true
  back : BackE ops
  /-- One that is ready waits for none that is not listed. -/
  rdy : ∀ lst : Nat → Prop, (∀ a ∈ its, lst a.i → ∀ j, bit a.p j = true → lst j) → (∀ k, n ≤ k → ¬ lst k) → ∀ a ∈ its, (∀ e ∈ a.o.after.toList, Region.binds .any e = true → lst e.on) → ∀ j, bit a.p j = true → lst j
  tail2 : ∀ i o, n ≤ i → ops[i]? = some o → ∀ k, k < i → ∃ e ∈ o.after.toList, Region.binds .any e = true ∧ k ≤ e.on
  tail : ∀ lst : Nat → Prop, (∀ a ∈ its, lst a.i → ∀ j, bit a.p j = true → lst j) → (∀ k, n ≤ k → ¬ lst k) → ∀ i o, n ≤ i → ops[i]? = some o → (∀ e ∈ o.after.toList, Region.binds .any e = true → lst e.on) → ∀ j, j < i → lst j
theorem slotsOk_spec {all : List Oper} {its : List It} (h : slotsOk all its = true) : ∀ a ∈ its, ∀ d, a.o.dst = some d → ∀ b ∈ its, (a.i = b.i → d ∉ named b.o all) ∧ (a.i ≠ b.i → b.o.dst ≠ some d ∧ (bit b.p a.i = true ∨ d ∉ named b.o all)) := by
  intro a ha d hd b hb
  unfold slotsOk at h
  rw [List.all_eq_true] at h
  have h := h a ha
  rw [hd] at h
  simp only [List.all_eq_true] at h
  have h := h b hb
  have hn : ∀ {x : Bool}, x = (named b.o all).any (Nat.beq d) → x = false → d ∉ named b.o all := fun hx hf hm => by
    rw [hf] at hx
    have : (named b.o all).any (Nat.beq d) = true := List.any_eq_true.2 ⟨d, hm, Nat.beq_refl d⟩
    rw [this] at hx
    cases hx
  cases hi : Nat.beq a.i b.i with
  | true =>
    rw [hi, cond_true, nt_eq] at h
    have hi := beq_iff.1 hi
    exact ⟨fun _ => hn rfl (by simpa using h), fun q => absurd hi q⟩
  | false =>
    rw [hi, cond_false] at h
    have hi : a.i ≠ b.i := fun q => by rw [q, Nat.beq_refl] at hi; cases hi
    obtain ⟨h1, h2⟩ := an_true h
    refine ⟨fun q => absurd q hi, fun _ => ⟨fun q => ?_, ?_⟩⟩
    · rw [q] at h1
      simp only [Nat.beq_refl] at h1
      cases h1
    · cases hp : bit b.p a.i with
      | true => exact .inl rfl
      | false =>
        rw [hp, cond_false, nt_eq] at h2
        exact .inr (hn rfl (by simpa using h2))
theorem drOf_txt {ops : Array Oper} (h : (drOf ops.toList).ok = true) : Txt ops (drOf ops.toList).its (drOf ops.toList).n ∧ (drOf ops.toList).tl = ops.toList.drop (drOf ops.toList).n := by
  have hps : (ahead ops.toList 0 .lf).length = ops.toList.length := ahead_len _ _ _
  generalize hpe : ahead ops.toList 0 .lf = ps at hps
  have hn := tailAt_ge ps 0 0 (Nat.le_refl _)
  have hts := tailAt_spec ps 0 0 (Nat.le_refl _)
  have hlen : (mkIt ops.toList ps 0).length = ops.toList.length := mkIt_len _ _ _ hps
  have hD : drOf ops.toList = ⟨(mkIt ops.toList ps 0).take (tailAt ps 0 0), tailAt ps 0 0, drp (tailAt ps 0 0) ops.toList, an (slotsOk ops.toList ((mkIt ops.toList ps 0).take (tailAt ps 0 0))) (an (chn ((mkIt ops.toList ps 0).take (tailAt ps 0 0)) 0) (bkE ops.toList 0))⟩ := by
    unfold drOf
    rw [hpe]
  rw [hD] at h ⊢
  generalize tailAt ps 0 0 = n at hn hts h ⊢
  obtain ⟨h1, h2⟩ := an_true h
  obtain ⟨h2, h3⟩ := an_true h2
  have hsz : ops.toList.length = ops.size := by simp
  have hle : n ≤ ops.size := by rw [← hsz, ← hps]; simpa using hn.2
  have hat : ∀ k a, ((mkIt ops.toList ps 0).take n)[k]? = some a → a.i = k ∧ ops[k]? = some a.o ∧ a.e = isEff a.o.op ∧ k < n ∧ ps[k]? = some a.p := fun k a hk => by
    rw [List.getElem?_take] at hk
    by_cases c : k < n
    · rw [if_pos c] at hk
      obtain ⟨g1, g2, g3, g4⟩ := mkIt_spec _ _ _ _ _ hk
      exact ⟨by omega, by simpa using g2, g4, c, g3⟩
    · rw [if_neg c] at hk
      cases hk
  have hspec := ahead_spec (fun k => ps[k]?) ops.toList 0 .lf (fun n y hy => by cases hy) (fun k x hk => by rw [hpe] at hk; simpa using hk)
  rw [hpe] at hspec
  have hget : ∀ k, k < n → ∃ a, ((mkIt ops.toList ps 0).take n)[k]? = some a := fun k hk => by
    rw [List.getElem?_take, if_pos hk]
    exact ⟨_, List.getElem?_eq_getElem (by rw [hlen, hsz]; omega)⟩
  have hrdy : ∀ lst : Nat → Prop, (∀ a ∈ (mkIt ops.toList ps 0).take n, lst a.i → ∀ j, bit a.p j = true → lst j) → (∀ k, n ≤ k → ¬ lst k) → ∀ (i : Nat) (o : Oper) (x : Nat), ops[i]? = some o → ps[i]? = some x → (∀ e ∈ o.after.toList, Region.binds .any e = true → lst e.on) → ∀ j, bit x j = true → lst j := by
    intro lst hcl htl i o x ho hx he j hj
    obtain ⟨o', g1, g2⟩ := hspec i x hx
    have : o' = o := by
      have : ops[i]? = some o' := by simpa using g1
      rw [ho] at this
      injection this with this
      exact this.symm
    subst this
    obtain ⟨e, g3, g4, g5⟩ := g2 j hj
    have hl := he e g3 g4
    rcases g5 with rfl | ⟨y, g5, g6⟩
    · exact hl
    · by_cases c : e.on < n
      · obtain ⟨a, ha⟩ := hget _ c
        obtain ⟨k1, k2, k3, k4, k5⟩ := hat _ _ ha
        refine hcl a (List.mem_of_getElem? ha) (by rw [k1]; exact hl) j ?_
        have g5 : ps[e.on]? = some y := g5
        rw [k5] at g5
        injection g5 with g5
        rw [g5]
        exact g6
      · exact absurd hl (htl _ (by omega))
  have hback : BackE ops := by
    intro i o ho e he hb
    have := bkE_spec h3 i o (by simpa using ho) e he hb
    omega
  have hless : ∀ i x, ps[i]? = some x → ∀ j, bit x j = true → j < i := by
    intro i
    induction i using Nat.strongRecOn with
    | _ i ih =>
      intro x hx j hj
      obtain ⟨o', g1, g2⟩ := hspec i x hx
      obtain ⟨e, g3, g4, g5⟩ := g2 j hj
      have hlt := hback i o' (by simpa using g1) e g3 g4
      rcases g5 with rfl | ⟨y, g5, g6⟩
      · exact hlt
      · have := ih e.on hlt y g5 j g6
        omega
  refine ⟨⟨fun k a hk => ?_, hget, hle, slotsOk_spec h1, (chn_spec h2).2, hback, fun lst hcl htl a ha he j hj => ?_, fun i o hi ho k hk => ?_, fun lst hcl htl i o hi ho he j hj => ?_⟩, by rw [drp_eq]⟩
  · obtain ⟨k1, k2, k3, k4, -⟩ := hat k a hk
    exact ⟨k1, k2, k3, k4⟩
  · obtain ⟨k, hk⟩ := List.getElem?_of_mem ha
    obtain ⟨k1, k2, k3, k4, k5⟩ := hat k a hk
    exact hrdy lst hcl htl k a.o a.p k2 k5 he j hj
  · have hlt := (Array.getElem?_eq_some_iff.1 ho).1
    obtain ⟨x, hx⟩ : ∃ x, ps[i]? = some x := ⟨_, List.getElem?_eq_getElem (by rw [hps, hsz]; exact hlt)⟩
    have := hts i x hx (by simpa using hi)
    obtain ⟨o', g1, g2⟩ := hspec i x hx
    have : o' = o := by
      have : ops[i]? = some o' := by simpa using g1
      rw [ho] at this
      injection this with this
      exact this.symm
    subst this
    obtain ⟨e, g3, g4, g5⟩ := g2 k (bits_full (k := i) (by simpa using hts i x hx (by simpa using hi)) hk)
    refine ⟨e, g3, g4, ?_⟩
    rcases g5 with rfl | ⟨y, g5, g6⟩
    · exact Nat.le_refl _
    · exact Nat.le_of_lt (hless _ y g5 k g6)
  · have hlt := (Array.getElem?_eq_some_iff.1 ho).1
    obtain ⟨x, hx⟩ : ∃ x, ps[i]? = some x := ⟨_, List.getElem?_eq_getElem (by rw [hps, hsz]; exact hlt)⟩
    have := hts i x hx (by simpa using hi)
    exact hrdy lst hcl htl i o x ho hx he j (bits_full (k := i) (by simpa using this) hj)
end Go.RI
namespace Go.RI
open Go Go.RowKit
section
variable {P : Program} {T : Tb} {ρ ρ' : Env} {w0 w w' : World} {L L' L0 : Loc} {s s' : St} {m : Fm} {v : V} {a a' : Act} {N : Nat} {cal : FuncId → List V → St → Oc Rr} {ops : Array Oper} {o : Oper}
/-! a region that draws its order: steps -/
/-- The same thing still. -/
def SameOb (x y : Ob) : Prop := x = y ∨ ∃ t n g z c c' l, x = .row t n g z c ∧ y = .row t n g z c' ∧ rdN c n 0 = some l ∧ rdN c' n 0 = some l
theorem SameOb.g {x y : Ob} (h : SameOb x y) : y.g = x.g := by
  rcases h with rfl | ⟨t, n, g, z, c, c', l, rfl, rfl, -, -⟩ <;> rfl
theorem SameOb.ro {x y : Ob} (h : SameOb x y) {B0 b : Nat} (k : RO ρ L B0 w b x) : RO ρ L B0 w b y := by
  rcases h with rfl | ⟨t, n, g, z, c, c', l, rfl, rfl, h1, h2⟩
  · exact k
  · intro B base sz e
    obtain ⟨k1, k0, C, fz, k2, k3, k4, k5, k6, k7⟩ := k B base sz e
    refine ⟨k1, k0, C, fz, k2, k3, k4, k5, k6, fun i v hi hv => k7 i v hi ?_⟩
    have g1 := (rdN_spec h1).2 i hi
    have g2 := (rdN_spec h2).2 i hi
    rw [Nat.zero_add] at g1 g2
    rw [g1, ← g2]
    exact hv
/-- Is it wanted? -/
noncomputable def wtd (ops : Array Oper) (m : Fm) (o : Oper) : Option Bool := on o.guard (some true) (want ops.toList m)
theorem op1_wtd : op1 T cal ops.toList o s m = on (wtd ops m o) .no fun b => cd b (op2 T cal o s m) (putD o (.tup []) s m) := by
  unfold op1 wtd
  cases o.guard <;> rfl
/-- A frame with an answer in it. -/
noncomputable def putF (o : Oper) (v : V) (m : Fm) : Fm := match o.dst with
  | none => m
  | some d => ⟨m.t.put d v, m.d⟩
theorem putF_d : (putF o v m).d = m.d := by unfold putF; cases o.dst <;> rfl
theorem putF_ne {t : Nat} (h : o.dst ≠ some t) : (putF o v m).t.get t = m.t.get t := by
  unfold putF
  cases hd : o.dst with
  | none => rfl
  | some d =>
    show (m.t.put d v).get t = _
    rw [Tr.get_put, if_neg]
    rintro rfl
    exact h hd
theorem putF_self {t : Nat} (h : o.dst = some t) : (putF o v m).t.get t = some v := by
  unfold putF
  rw [h]
  show (m.t.put t v).get t = _
  rw [Tr.get_put, if_pos rfl]
theorem putD_eq : putD o v s m = .one ⟨.nrm, s, putF o v m⟩ := by
  unfold putD putF
  cases o.dst with
  | none => rfl
  | some d =>
    show (m.t.set d v fun t => Oc.one (⟨.nrm, s, ⟨t, m.d⟩⟩ : R)) = _
    rw [Tr.set_put]
theorem pure_step {p : R → Prop} (hp : isEff o.op = false) (e : (op1 T cal ops.toList o s m).all p) : ∃ v s' c, p ⟨.nrm, s', putF o v m⟩ ∧ wtd ops m o = some c ∧ (c = true → rvOp T m s o.op = .ok v s') ∧ (c = false → v = .tup [] ∧ s' = s) := by
  rw [op1_wtd] at e
  replace e := on_all e
  obtain ⟨c, hc, e⟩ := e
  cases c with
  | true =>
    rw [cd_true, op2_pure hp] at e
    replace e := fin_all e
    obtain ⟨v, s', h1, e⟩ := e
    rw [putD_eq] at e
    exact ⟨v, s', true, e, hc, (fun _ => h1), fun q => Bool.noConfusion q⟩
  | false =>
    rw [cd_false, putD_eq] at e
    exact ⟨.tup [], s, false, e, hc, (fun q => Bool.noConfusion q), fun _ => ⟨rfl, rfl⟩⟩
/-! the frame behind an operation -/
def Oc.ev {α : Type} : Oc α → (α → Prop) → Prop
  | .no, _ => True
  | .one a, p => p a
  | .two x y, p => x.ev p ∧ y.ev p
theorem Oc.all_ev {α : Type} {p q : α → Prop} : ∀ {o : Oc α}, o.all p → o.ev q → o.all fun a => q a ∧ p a
  | .no, h, _ => h
  | .one a, h, k => ⟨k, h⟩
  | .two x y, h, k => ⟨Oc.all_ev h.1 k.1, Oc.all_ev h.2 k.2⟩
theorem Oc.ev_bnd {α β : Type} {p : β → Prop} {k : α → Oc β} (h : ∀ a, (k a).ev p) : ∀ {o : Oc α}, (o.bnd k).ev p
  | .no => trivial
  | .one a => h a
  | .two x y => ⟨Oc.ev_bnd h, Oc.ev_bnd h⟩
theorem ev_on {α β : Type} {o : Option α} {k : α → Oc β} {p : β → Prop} (h : ∀ a, (k a).ev p) : (on o .no k).ev p := by
  cases o with
  | none => trivial
  | some a => exact h a
theorem ev_cd {β : Type} {c : Bool} {x y : Oc β} {p : β → Prop} (h : x.ev p) (k : y.ev p) : (cd c x y).ev p := by
  cases c
  · exact k
  · exact h
/-- Nothing but its answer is new in the frame. -/
def Fr (o : Oper) (m : Fm) (q : R) : Prop := ∀ t, o.dst ≠ some t → q.m.t.get t = m.t.get t
theorem putD_fr {m' : Fm} (h : m'.t = m.t) : (putD o v s m').ev (Fr o m) := by
  rw [putD_eq]
  intro t ht
  show (putF o v m').t.get t = _
  rw [putF_ne ht, h]
theorem fin_fr {r : Rv} : (fin o m r).ev (Fr o m) := by
  cases r with
  | no => trivial
  | ok v s => exact putD_fr rfl
theorem alts_fr {k : Me → Oc R} {p : R → Prop} (h : ∀ e, (k e).ev p) : ∀ {l : List Me}, (alts k l).ev p
  | [] => trivial
  | [e] => h e
  | e :: x :: r => ⟨h e, alts_fr (l := x :: r) h⟩
theorem nxt_fr {str : Bool} {b : Nat} : (nxt o str b s m).ev (Fr o m) := by
  unfold nxt
  split
  · refine ev_cd (ev_cd (ev_on fun c => ev_cd ?_ trivial) (putD_fr rfl)) trivial
    rw [sN_eq, Tr.set_put]
    exact putD_fr rfl
  · exact ev_cd trivial (putD_fr rfl)
  · refine ev_on fun q => ev_cd ?_ trivial
    cases left _ q.1 with
    | nil => exact putD_fr rfl
    | cons e x =>
      refine alts_fr (l := e :: x) fun e => ?_
      rw [Tr.set_put]
      exact putD_fr rfl
  · trivial
theorem sel_fr {c : SelectCase} : (sel T o c s m).ev (Fr o m) := by
  unfold sel
  split
  · split
    · exact putD_fr rfl
    · exact putD_fr rfl
    · rw [sN_eq, Tr.set_put]
      exact putD_fr rfl
    · trivial
  · split
    · cases Nat.blt _ _ with
      | true =>
        rw [cond_true, sN_eq, Tr.set_put]
        exact putD_fr rfl
      | false => exact putD_fr rfl
    · trivial
  · trivial
theorem op1_fr : (op1 T cal ops.toList o s m).ev (Fr o m) := by
  rw [op1_wtd]
  refine ev_on fun c => ev_cd ?_ (putD_fr rfl)
  unfold op2
  refine ev_cd fin_fr ?_
  unfold op3
  split
  · unfold opC tgt
    refine ev_on fun l => ?_
    split
    · exact fin_fr
    · refine ev_on fun f => ?_
      cases f <;> first | trivial | skip
      rename_i g a b
      cases g <;> first | trivial | exact Oc.ev_bnd fun r => putD_fr rfl
    · refine ev_on fun f => ?_
      cases f <;> first | trivial | exact ev_on fun f => Oc.ev_bnd fun r => putD_fr rfl
  · unfold tgt
    refine ev_on fun l => ?_
    split
    · trivial
    · refine ev_on fun f => ?_
      cases f <;> first | trivial | skip
      rename_i g a b
      cases g <;> first | trivial | exact putD_fr rfl
    · refine ev_on fun f => ?_
      cases f <;> first | trivial | exact ev_on fun f => putD_fr rfl
  · refine ev_on fun x => ?_
    cases x <;> first | trivial | skip
    rename_i p
    cases p with
    | none => trivial
    | some p =>
      cases p with
      | own b g q => exact ev_cd nxt_fr trivial
      | var _ _ => trivial
  · split
    · exact sel_fr
    · trivial
  · trivial
/-! what was reckoned is so still -/
theorem sameV_true {op : Op} {u : V} (h : sameV T m s op u = true) (hp : isEff op = false) : rvOp T m s op = .ok u s := by
  have h : (match rvOp T m s op with
    | .ok x q => an (V.beq x u) (Nat.beq q.nx s.nx)
    | .no => false) = true := h
  cases hr : rvOp T m s op with
  | no => rw [hr] at h; cases h
  | ok x q =>
    rw [hr] at h
    obtain ⟨h1, h2⟩ := an_true h
    rw [V.beq_true h1]
    have h2 := beq_iff.1 h2
    rcases rvOp_or (T := T) (m := m) (s := s) hp with k | ⟨-, k⟩
    · rw [k _ _ hr]
    · rcases k _ _ hr with k | ⟨ob, -, k⟩
      · rw [k]
      · rw [k] at h2
        exact absurd h2 (by simp)
theorem again_spec {p : Nat} : ∀ {ds : List Dn}, again T ops.toList p s ds = true → ∀ d ∈ ds, bit p d.i = false →
    (∀ b ob, d.nb = some (b, ob) → ∃ o', s.h.get b = some o' ∧ SameOb ob o') ∧ (d.nb = none → wtd ops d.m d.o = some true → sameV T d.m s d.o.op d.v = true)
  | [], _, d, hd, _ => by simp at hd
  | x :: r, h, d, hd, hb => by
    unfold again at h
    have tl : again T ops.toList p s r = true → d ∈ r → _ := fun h hd => again_spec h d hd hb
    cases hx : bit p x.i with
    | true =>
      rw [hx, cond_true] at h
      simp only [List.mem_cons] at hd
      rcases hd with rfl | hd
      · rw [hx] at hb; cases hb
      · exact tl h hd
    | false =>
      rw [hx, cond_false] at h
      simp only [List.mem_cons] at hd
      split at h
      · rename_i b t n g z c hnb
        split at h
        · rename_i t' n' g' z' c' hs
          obtain ⟨h1, h2⟩ := an_true h
          obtain ⟨h3, h4⟩ := an_true h1
          obtain ⟨h5, h6⟩ := an_true h3
          obtain ⟨h7, h8⟩ := an_true h4
          have h5 := beq_iff.1 h5
          have h6 := beq_iff.1 h6
          have h7 := beq_iff.1 h7
          have h8 := beq_iff.1 h8
          subst h5 h6 h7 h8
          split at h2
          · rename_i l l' hl hl'
            obtain ⟨h9, h10⟩ := an_true h2
            have h9 := beqs_true h9
            subst h9
            rcases hd with rfl | hd
            · refine ⟨fun b' ob q => ?_, fun q => by rw [hnb] at q; cases q⟩
              rw [hnb] at q
              injection q with q
              injection q with q1 q2
              subst q1 q2
              exact ⟨_, hs, .inr ⟨_, _, _, _, _, _, _, rfl, rfl, hl, hl'⟩⟩
            · exact tl h10 hd
          · cases h2
        · cases h
      · rename_i b c hnb
        split at h
        · rename_i c' hs
          obtain ⟨h1, h2⟩ := an_true h
          have h1 := beq_iff.1 h1
          subst h1
          rcases hd with rfl | hd
          · refine ⟨fun b' ob q => ?_, fun q => by rw [hnb] at q; cases q⟩
            rw [hnb] at q
            injection q with q
            injection q with q1 q2
            subst q1 q2
            exact ⟨_, hs, .inl rfl⟩
          · exact tl h2 hd
        · cases h
      · cases h
      · rename_i hnb
        split at h
        · rename_i hg
          obtain ⟨h1, h2⟩ := an_true h
          rcases hd with rfl | hd
          · exact ⟨fun b' ob q => by (rw [hnb] at q; cases q), fun _ _ => h1⟩
          · exact tl h2 hd
        · rename_i q hg
          split at h
          · rename_i hw
            rcases hd with rfl | hd
            · refine ⟨fun b' ob q => by (rw [hnb] at q; cases q), fun _ k => ?_⟩
              unfold wtd at k
              rw [hg] at k
              have k : want ops.toList d.m q = some true := k
              rw [hw] at k
              cases k
            · exact tl h hd
          · obtain ⟨h1, h2⟩ := an_true h
            rcases hd with rfl | hd
            · exact ⟨fun b' ob q => by (rw [hnb] at q; cases q), fun _ _ => h1⟩
            · exact tl h2 hd
          · cases h
theorem RD.env (hu : ρ.un = ρ'.un) {d : Df} {D : Deferred} (h : RD P ρ L d D) : RD P ρ' L d D := let ⟨xs, h1, h2⟩ := h; ⟨xs, h1.env hu, h2⟩
theorem RDs.env (hu : ρ.un = ρ'.un) : ∀ {l : List Df} {r : List Deferred}, RDs P ρ L l r → RDs P ρ' L l r
  | _, _, .nil => .nil
  | _, _, .cons h k => .cons (h.env hu) (RDs.env hu k)
theorem RFmS.env {S : Nat → Prop} (hu : ρ.un = ρ'.un) (h : RFmS P ρ S L N m a) : RFmS P ρ' S L N m a := ⟨h.size, fun i v hs hv => let ⟨x, h1, h2⟩ := h.tmp i v hs hv; ⟨x, h1, h2.env hu⟩, h.dfs.env hu⟩
end
end Go.RI
namespace Go.RI
open Go Go.RowKit
section
variable {P : Program} {T : Tb} {ρ ρ' ρ'' : Env} {w0 w w' : World} {L L' L0 : Loc} {s s' : St} {m : Fm} {v : V} {a a' : Act} {N n : Nat} {cal : FuncId → List V → St → Oc Rr} {ops : Array Oper} {o : Oper} {its0 its : List It} {dn : Nat} {ds : List Dn} {listed : Array Bool}
/-- It is listed. -/
def Ls (listed : Array Bool) (i : Nat) : Prop := listed[i]? = some true
theorem Ls.set {i : Nat} (hi : i < listed.size) (j : Nat) : Ls (listed.setIfInBounds i true) j ↔ Ls listed j ∨ j = i := by
  unfold Ls
  by_cases c : j = i
  · subst c
    simp [hi]
  · rw [Array.getElem?_setIfInBounds_ne (fun q => c q.symm)]
    exact ⟨.inl, fun h => h.resolve_right c⟩
/-- What is owed: reckoned, but not yet there. -/
structure GoodD (T : Tb) (ops : Array Oper) (res : Nat → Prop) (s : St) (m : Fm) (d : Dn) : Prop where
  nm : ∀ t ∈ named d.o ops.toList, d.m.t.get t = m.t.get t
  dst : ∀ t, d.o.dst = some t → m.t.get t = some d.v
  eff : isEff d.o.op = false
  mkd : ∀ b ob, d.nb = some (b, ob) → ¬ res b ∧ wtd ops d.m d.o = some true ∧ (∃ s0 v0, s0.nx = b ∧ rvOp T d.m s0 d.o.op = .ok v0 ⟨s0.h.put b ob, b + 1⟩ ∧ (d.o.dst ≠ none → v0 = d.v)) ∧ ∃ o', s.h.get b = some o' ∧ SameOb ob o'
  rd : d.nb = none → ∃ c, wtd ops d.m d.o = some c ∧ (c = true → ∃ u, rvOp T d.m s d.o.op = .ok u s ∧ (d.o.dst ≠ none → u = d.v)) ∧ (c = false → d.o.dst ≠ none → d.v = .tup [])
structure Inv (P : Program) (T : Tb) (ρ : Env) (w0 : World) (L0 : Loc) (ops : Array Oper) (its0 : List It) (n N : Nat) (its : List It) (dn : Nat) (ds : List Dn) (s : St) (m : Fm) (listed : Array Bool) (a : Act) (w : World) (L : Loc) (ρ' : Env) : Prop where
  sz : listed.size = ops.size
  cl : ∀ x ∈ its0, Ls listed x.i → ∀ j, bit x.p j = true → Ls listed j
  tl : ∀ k, n ≤ k → ¬ Ls listed k
  ld : ∀ x ∈ its0, Ls listed x.i → bit dn x.i = true
  dcl : ∀ x ∈ its0, bit dn x.i = true → ∀ j, bit x.p j = true → bit dn j = true
  it : ∀ x, x ∈ its ↔ x ∈ its0 ∧ bit dn x.i = false
  pw : its.Pairwise (fun a b => a.i ≠ b.i)
  has : ∀ x ∈ its0, bit dn x.i = true → ¬ Ls listed x.i → ∃ d ∈ ds, d.i = x.i
  item : ∀ d ∈ ds, ∃ x ∈ its0, x.i = d.i ∧ x.o = d.o ∧ bit dn d.i = true
  uq : ds.Pairwise (fun a b => a.i ≠ b.i)
  good : ∀ d ∈ ds, ¬ Ls listed d.i → GoodD T ops ρ.res s m d
  nbq : ∀ d ∈ ds, ∀ d' ∈ ds, ¬ Ls listed d.i → ¬ Ls listed d'.i → ∀ b o o', d.nb = some (b, o) → d'.nb = some (b, o') → d.i = d'.i
  un : ρ.un = ρ'.un
  res : ∀ b, ρ'.res b ↔ ρ.res b ∨ ∃ d ∈ ds, ¬ Ls listed d.i ∧ ∃ o, d.nb = some (b, o)
  le : L0.le L
  rel : Rel ρ' w0 L s w
  fm : RFmS P ρ' (fun t => ∀ d ∈ ds, ¬ Ls listed d.i → d.o.dst ≠ some t) L N m a
section
variable (hX : Txt ops its0 n)
theorem Txt.same (hX : Txt ops its0 n) {x y : It} (hx : x ∈ its0) (hy : y ∈ its0) (h : x.i = y.i) : x = y := by
  obtain ⟨k, hk⟩ := List.getElem?_of_mem hx
  obtain ⟨j, hj⟩ := List.getElem?_of_mem hy
  have h1 := (hX.at_ k x hk).1
  have h2 := (hX.at_ j y hj).1
  have : k = j := by omega
  subst this
  rw [hk] at hj
  injection hj
theorem Txt.op (hX : Txt ops its0 n) {x : It} (hx : x ∈ its0) : ops[x.i]? = some x.o ∧ x.e = isEff x.o.op ∧ x.i < n := by
  obtain ⟨k, hk⟩ := List.getElem?_of_mem hx
  obtain ⟨h1, h2, h3, h4⟩ := hX.at_ k x hk
  rw [h1]
  exact ⟨h2, h3, h4⟩
theorem Txt.ex (hX : Txt ops its0 n) {k : Nat} (hk : k < n) : ∃ x ∈ its0, x.i = k := by
  obtain ⟨x, hx⟩ := hX.has k hk
  exact ⟨x, List.mem_of_getElem? hx, (hX.at_ k x hx).1⟩
theorem pw_same {d d' : Dn} (h : ds.Pairwise (fun a b => a.i ≠ b.i)) (hd : d ∈ ds) (hd' : d' ∈ ds) (hi : d.i = d'.i) : d = d' := by
  induction ds with
  | nil => simp at hd
  | cons x r ih =>
    rw [List.pairwise_cons] at h
    simp only [List.mem_cons] at hd hd'
    rcases hd with rfl | hd
    · rcases hd' with rfl | hd'
      · rfl
      · exact absurd hi (h.1 d' hd')
    · rcases hd' with rfl | hd'
      · exact absurd hi.symm (h.1 d hd)
      · exact ih h.2 hd hd'
/-- An operation floats: it is reckoned ahead of its time. -/
theorem Inv.owe (hX : Txt ops its0 n) (I : Inv P T ρ w0 L0 ops its0 n N its dn ds s m listed a w L ρ') {x : It} (hx : x ∈ its) (he : x.e = false) (hp : ∀ j, bit x.p j = true → bit dn j = true) {c : Bool} {nb : Option (Nat × Ob)}
    (hc : wtd ops m x.o = some c) (h1 : c = true → rvOp T m s x.o.op = .ok v s') (h2 : c = false → v = .tup [] ∧ s' = s)
    (hnb : (nb = none ∧ s' = s) ∨ ∃ ob : Ob, ob.g = 0 ∧ s' = ⟨s.h.put s.nx ob, s.nx + 1⟩ ∧ nb = some (s.nx, ob) ∧ c = true ∧ again T ops.toList 0 s' ds = true) :
    ∃ ρ'', Inv P T ρ w0 L0 ops its0 n N (its.filter fun a => !Nat.beq a.i x.i) (Nat.lor dn (Nat.pow 2 x.i)) (⟨x.i, x.o, m, valOf x.o (putF x.o v m), nb⟩ :: ds) s' (putF x.o v m) listed a w L ρ'' := by
  obtain ⟨hx0, hxd⟩ := (I.it x).1 hx
  obtain ⟨hxo, hxe, hxn⟩ := hX.op hx0
  have hnl : ¬ Ls listed x.i := fun q => by rw [I.ld x hx0 q] at hxd; cases hxd
  have hdn : ∀ j, bit (Nat.lor dn (Nat.pow 2 x.i)) j = true ↔ bit dn j = true ∨ x.i = j := fun j => by
    rw [bit_lor, bit_pow]
    simp
  have hold : ∀ d ∈ ds, ∃ y ∈ its0, y.i = d.i ∧ y.o = d.o ∧ bit dn d.i = true ∧ y.i ≠ x.i := fun d hd => by
    obtain ⟨y, k1, k2, k3, k4⟩ := I.item d hd
    exact ⟨y, k1, k2, k3, k4, fun q => by rw [← k2, q, hxd] at k4; cases k4⟩
  have hdst : ∀ d ∈ ds, ∀ t, t ∈ named d.o ops.toList → x.o.dst ≠ some t := fun d hd t ht q => by
    obtain ⟨y, k1, k2, k3, k4, k5⟩ := hold d hd
    rcases ((hX.slots x hx0 t q y k1).2 fun q => k5 q.symm).2 with g | g
    · have := I.dcl y k1 (by rw [k2]; exact k4) _ g
      rw [this] at hxd
      cases hxd
    · rw [k3] at g
      exact g ht
  have hdst2 : ∀ d ∈ ds, ∀ t, d.o.dst = some t → x.o.dst ≠ some t := fun d hd t ht q => by
    obtain ⟨y, k1, k2, k3, k4, k5⟩ := hold d hd
    have := ((hX.slots x hx0 t q y k1).2 fun q => k5 q.symm).1
    rw [k3] at this
    exact this ht
  have hval : ∀ t, x.o.dst = some t → valOf x.o (putF x.o v m) = v := fun t ht => by
    unfold valOf
    rw [ht]
    show on ((putF x.o v m).t.get t) (.tup []) id = v
    rw [putF_self ht]
    rfl
  have hval' : x.o.dst ≠ none → valOf x.o (putF x.o v m) = v := fun q => by
    cases hd : x.o.dst with
    | none => exact absurd hd q
    | some t => exact hval t hd
  -- those of old are good still
  have hgood : ∀ d ∈ ds, ¬ Ls listed d.i → GoodD T ops ρ.res s' (putF x.o v m) d := fun d hd hl => by
    have G := I.good d hd hl
    refine ⟨fun t ht => by rw [putF_ne (hdst d hd t ht)]; exact G.nm t ht, fun t ht => by rw [putF_ne (hdst2 d hd t ht)]; exact G.dst t ht, G.eff, fun b ob q => ?_, fun q => ?_⟩
    · obtain ⟨k1, k2, k3, o', k4, k5⟩ := G.mkd b ob q
      refine ⟨k1, k2, k3, o', ?_, k5⟩
      rcases hnb with ⟨-, rfl⟩ | ⟨ob', -, rfl, -⟩
      · exact k4
      · have := (I.rel.res b ((I.res b).2 (.inr ⟨d, hd, hl, ob, q⟩))).1
        show (s.h.put s.nx ob').get b = _
        rw [Tr.get_put, if_neg (by omega)]
        exact k4
    · obtain ⟨c', k1, k2, k3⟩ := G.rd q
      rcases hnb with ⟨-, rfl⟩ | ⟨ob', -, -, -, -, hag⟩
      · exact ⟨c', k1, k2, k3⟩
      · refine ⟨c', k1, fun hc' => ?_, k3⟩
        subst hc'
        exact ⟨d.v, sameV_true ((again_spec hag d hd (bit_zero _)).2 q k1) G.eff, fun _ => rfl⟩
  have hres0 : ¬ ρ.res s.nx := fun q => by
    have := (I.rel.res s.nx ((I.res s.nx).2 (.inl q))).1
    omega
  have hfm : ∀ ρ'' : Env, ρ'.un = ρ''.un → RFmS P ρ'' (fun t => ∀ d ∈ (⟨x.i, x.o, m, valOf x.o (putF x.o v m), nb⟩ :: ds : List Dn), ¬ Ls listed d.i → d.o.dst ≠ some t) L N (putF x.o v m) a := fun ρ'' hu => by
    refine RFmS.env hu ⟨I.fm.size, fun i u hs hu => ?_, ?_⟩
    · have h0 : x.o.dst ≠ some i := hs _ (List.mem_cons_self) hnl
      rw [putF_ne h0] at hu
      exact I.fm.tmp i u (fun d hd hl => hs d (List.mem_cons_of_mem _ hd) hl) hu
    · rw [putF_d]
      exact I.fm.dfs
  have hnew : GoodD T ops ρ.res s' (putF x.o v m) ⟨x.i, x.o, m, valOf x.o (putF x.o v m), nb⟩ := by
    refine ⟨fun t ht => ?_, fun t ht => ?_, by rw [← hxe]; exact he, fun b ob q => ?_, fun q => ?_⟩
    · show m.t.get t = _
      rw [putF_ne fun q => ?_]
      exact (hX.slots x hx0 t q x hx0).1 rfl ht
    · show _ = some (valOf x.o (putF x.o v m))
      rw [hval t ht]
      exact putF_self ht
    · rcases hnb with ⟨q', -⟩ | ⟨ob', hg, hs', q', hct, -⟩
      · have q : nb = some (b, ob) := q
        rw [q'] at q
        cases q
      · have q : nb = some (b, ob) := q
        rw [q'] at q
        injection q with q
        injection q with q1 q2
        subst q1 q2 hct
        refine ⟨hres0, hc, ⟨s, v, rfl, ?_, fun q => (hval' q).symm⟩, ob', ?_, .inl rfl⟩
        · rw [← hs']
          exact h1 rfl
        · rw [hs']
          exact Tr.get_put_self _ _ _
    · refine ⟨c, hc, fun k => ?_, fun k q => ?_⟩
      · rcases hnb with ⟨-, rfl⟩ | ⟨ob', -, -, q', -⟩
        · exact ⟨v, h1 k, fun q => (hval' q).symm⟩
        · have q : nb = none := q
          rw [q'] at q
          cases q
      · show valOf x.o (putF x.o v m) = _
        rw [hval' q]
        exact (h2 k).1
  have core : ∀ ρ'' : Env, ρ'.un = ρ''.un → (∀ b, ρ''.res b ↔ ρ'.res b ∨ ∃ o, nb = some (b, o)) → Rel ρ'' w0 L s' w → Inv P T ρ w0 L0 ops its0 n N (its.filter fun a => !Nat.beq a.i x.i) (Nat.lor dn (Nat.pow 2 x.i)) (⟨x.i, x.o, m, valOf x.o (putF x.o v m), nb⟩ :: ds) s' (putF x.o v m) listed a w L ρ'' := by
    intro ρ'' hu hr hrel
    have hnbq : ∀ d' ∈ ds, ¬ Ls listed d'.i → ∀ b o o', nb = some (b, o) → d'.nb = some (b, o') → False := fun d' hd' hl b o o' q q' => by
      rcases hnb with ⟨k, -⟩ | ⟨ob', -, -, k, -⟩
      · rw [k] at q; cases q
      · rw [k] at q
        injection q with q
        injection q with q1 q2
        subst q1
        have := (I.rel.res s.nx ((I.res s.nx).2 (.inr ⟨d', hd', hl, o', q'⟩))).1
        omega
    refine ⟨I.sz, I.cl, I.tl, fun y hy hl => (hdn _).2 (.inl (I.ld y hy hl)), fun y hy hb j hj => ?_, fun y => ?_, I.pw.filter _, fun y hy hb hl => ?_, fun d hd => ?_, ?_, fun d hd hl => ?_, fun d hd d' hd' hl hl' b o o' q q' => ?_, I.un.trans hu, fun b => ?_, I.le, hrel, hfm ρ'' hu⟩
    · rcases (hdn _).1 hb with hb | hb
      · exact (hdn _).2 (.inl (I.dcl y hy hb j hj))
      · have := hX.same hx0 hy hb
        subst this
        exact (hdn _).2 (.inl (hp j hj))
    · rw [List.mem_filter, I.it y]
      have hyx : (!Nat.beq y.i x.i) = true ↔ ¬ x.i = y.i := by
        cases hb : Nat.beq y.i x.i with
        | true => simp [(beq_iff.1 hb).symm]
        | false =>
          simp only [Bool.not_false, true_iff]
          intro q
          rw [q, Nat.beq_refl] at hb
          cases hb
      rw [hyx]
      have := hdn y.i
      cases hb : bit (Nat.lor dn (Nat.pow 2 x.i)) y.i with
      | true =>
        rw [hb] at this
        have := this.1 rfl
        refine ⟨fun ⟨⟨_, h1⟩, h2⟩ => ?_, fun ⟨_, q⟩ => by cases q⟩
        rcases this with k | k
        · rw [k] at h1; cases h1
        · exact absurd k h2
      | false =>
        rw [hb] at this
        refine ⟨fun ⟨⟨h0, _⟩, _⟩ => ⟨h0, rfl⟩, fun ⟨h0, _⟩ => ⟨⟨h0, ?_⟩, fun q => by have := this.2 (.inr q); cases this⟩⟩
        cases hb2 : bit dn y.i with
        | true => have := this.2 (.inl hb2); cases this
        | false => rfl
    · by_cases c : x.i = y.i
      · exact ⟨_, List.mem_cons_self, c⟩
      · obtain ⟨d, k1, k2⟩ := I.has y hy (((hdn _).1 hb).resolve_right c) hl
        exact ⟨d, List.mem_cons_of_mem _ k1, k2⟩
    · simp only [List.mem_cons] at hd
      rcases hd with rfl | hd
      · exact ⟨x, hx0, rfl, rfl, (hdn _).2 (.inr rfl)⟩
      · obtain ⟨y, k1, k2, k3, k4⟩ := I.item d hd
        exact ⟨y, k1, k2, k3, (hdn _).2 (.inl k4)⟩
    · rw [List.pairwise_cons]
      refine ⟨fun d hd q => ?_, I.uq⟩
      obtain ⟨y, k1, k2, k3, k4, k5⟩ := hold d hd
      exact k5 (k2.trans q.symm)
    · simp only [List.mem_cons] at hd
      rcases hd with rfl | hd
      · exact hnew
      · exact hgood d hd hl
    · simp only [List.mem_cons] at hd hd'
      rcases hd with rfl | hd
      · rcases hd' with rfl | hd'
        · rfl
        · exact (hnbq d' hd' hl' b o o' q q').elim
      · rcases hd' with rfl | hd'
        · exact (hnbq d hd hl b o' o q' q).elim
        · exact I.nbq d hd d' hd' hl hl' b o o' q q'
    · rw [hr b, I.res b]
      constructor
      · rintro ((h | ⟨d, h3, h4, h5⟩) | ⟨o, h⟩)
        · exact .inl h
        · exact .inr ⟨d, List.mem_cons_of_mem _ h3, h4, h5⟩
        · exact .inr ⟨_, List.mem_cons_self, hnl, o, h⟩
      · rintro (h | ⟨d, h3, h4, h5⟩)
        · exact .inl (.inl h)
        · simp only [List.mem_cons] at h3
          rcases h3 with rfl | h3
          · exact .inr h5
          · exact .inl (.inr ⟨d, h3, h4, h5⟩)
  rcases hnb with ⟨hn, rfl⟩ | ⟨ob, hg, hs', hn, hct, hag⟩
  · exact ⟨ρ', core ρ' rfl (fun b => ⟨.inl, fun h => h.resolve_right fun ⟨o, q⟩ => by rw [hn] at q; cases q⟩) I.rel⟩
  · refine ⟨⟨ρ'.un, fun b => ρ'.res b ∨ ∃ o, nb = some (b, o)⟩, core _ rfl (fun b => Iff.rfl) ?_⟩
    rw [hs']
    refine Rel.env (ρ := ρ') rfl (I.rel.more ob) fun b hb => ?_
    rcases hb with hb | ⟨o, hb⟩
    · have := I.rel.res b hb
      exact ⟨by have := this.1; simp only; omega, this.2⟩
    · rw [hn] at hb
      injection hb with hb
      injection hb with hb1 hb2
      subst hb1
      exact ⟨by simp, fun g => I.rel.fresh _ g (Nat.le_refl _)⟩
end
end
end Go.RI
namespace Go.RI
open Go Go.RowKit
section
variable {P : Program} {T : Tb} {ρ ρ' ρ'' : Env} {w0 w w' : World} {L L' L0 : Loc} {s s' : St} {m : Fm} {v : V} {a a' : Act} {N n : Nat} {cal : FuncId → List V → St → Oc Rr} {ops : Array Oper} {o : Oper} {its0 its : List It} {dn : Nat} {ds : List Dn} {listed : Array Bool}
/-- What is owed is there. -/
theorem Inv.paid (hX : Txt ops its0 n) (I : Inv P T ρ w0 L0 ops its0 n N its dn ds s m listed a w L ρ') (hops : ∀ o ∈ ops.toList, OOk N o) {d : Dn} (hd : d ∈ ds) (hl : ¬ Ls listed d.i) {x : It} (hx : x ∈ its0) (hxi : x.i = d.i) (hxo : x.o = d.o) (hrdy : ∀ j, bit x.p j = true → Ls listed j)
    (hle : L.le L') (hun : ρ.un = ρ''.un) (hres : ∀ b, ρ''.res b ↔ ρ.res b ∨ ∃ d' ∈ ds, ¬ Ls (listed.setIfInBounds d.i true) d'.i ∧ ∃ o, d'.nb = some (b, o)) (hrel : Rel ρ'' w0 L' s w') {xv : Value} (hv : d.o.dst ≠ none → RV ρ'' L' d.v xv) :
    Inv P T ρ w0 L0 ops its0 n N its dn ds s m (listed.setIfInBounds d.i true) (a.put d.o.dst xv) w' L' ρ'' := by
  obtain ⟨ho, he, hn⟩ := hX.op hx
  rw [hxi] at ho hn
  rw [hxo] at ho
  have hi : d.i < listed.size := by rw [I.sz]; exact Nat.lt_of_lt_of_le hn hX.le
  have hls := Ls.set (listed := listed) hi
  have hno : ∀ {j : Nat}, ¬ Ls (listed.setIfInBounds d.i true) j → ¬ Ls listed j := fun h q => h ((hls _).2 (.inl q))
  have hdN : ∀ t, d.o.dst = some t → t < N := fun t ht => by
    refine hops d.o ?_ t ht
    rw [← Array.getElem?_toList] at ho
    exact List.mem_of_getElem? ho
  refine ⟨by simp [I.sz], fun y hy hly j hj => ?_, fun k hk => ?_, fun y hy hly => ?_, I.dcl, I.it, I.pw, fun y hy hb hly => I.has y hy hb (hno hly), I.item, I.uq, fun e he hle => I.good e he (hno hle), fun e he e' he' h1 h2 => I.nbq e he e' he' (hno h1) (hno h2), hun, hres, Loc.le_trans I.le hle, hrel, ?_⟩
  · rcases (hls _).1 hly with hly | hly
    · exact (hls _).2 (.inl (I.cl y hy hly j hj))
    · have := hX.same hx hy (hxi.trans hly.symm)
      subst this
      exact (hls _).2 (.inl (hrdy j hj))
  · rw [hls]
    rintro (h | h)
    · exact I.tl k hk h
    · omega
  · rcases (hls _).1 hly with hly | hly
    · exact I.ld y hy hly
    · obtain ⟨z, k1, k2, k3, k4⟩ := I.item d hd
      rw [hly]
      exact k4
  · have hun' : ρ'.un = ρ''.un := I.un.symm.trans hun
    have hf := (I.fm.env hun').mono hle
    cases hdst : d.o.dst with
    | none =>
      refine RFmS.weaken (fun t ht e he hle q => ?_) hf
      by_cases c : e.i = d.i
      · have := pw_same I.uq he hd c
        subst this
        rw [hdst] at q
        cases q
      · exact ht e he (fun q => hle (((hls _).1 q).resolve_right c)) q
    | some t0 =>
      have hG := (I.good d hd hl).dst t0 hdst
      have hvv := hv (by rw [hdst]; simp)
      refine ⟨by simp [Act.put, hf.size], fun i u hs hu => ?_, hf.dfs⟩
      by_cases c : i = t0
      · subst c
        rw [hG] at hu
        injection hu with hu
        subst hu
        exact ⟨xv, by simp [Act.put, hf.size, hdN i hdst], hvv⟩
      · obtain ⟨y, h1, h2⟩ := hf.tmp i u (fun e he hle q => by
          by_cases c' : e.i = d.i
          · have := pw_same I.uq he hd c'
            subst this
            rw [hdst] at q
            injection q with q
            exact c q.symm
          · exact hs e he (fun q => hle (((hls _).1 q).resolve_right c')) q) hu
        exact ⟨y, by simp only [Act.put]; rw [Array.getElem?_setIfInBounds_ne (fun q => c q.symm)]; exact h1, h2⟩
/-- What is owed is run. -/
theorem Inv.pay (hX : Txt ops its0 n) (hc : Ctx P T ρ w0) (I : Inv P T ρ w0 L0 ops its0 n N its dn ds s m listed a w L ρ') (hops : ∀ o ∈ ops.toList, OOk N o) {d : Dn} (hd : d ∈ ds) (hl : ¬ Ls listed d.i) {x : It} (hx : x ∈ its0) (hxi : x.i = d.i) (hxo : x.o = d.o) (hrdy : ∀ j, bit x.p j = true → Ls listed j) :
    Goes1 P ops d.i (fun a' w' => ∃ L' ρ'', Inv P T ρ w0 L0 ops its0 n N its dn ds s m (listed.setIfInBounds d.i true) a' w' L' ρ'') a w := by
  obtain ⟨ho, he, hn⟩ := hX.op hx
  rw [hxi] at ho hn
  rw [hxo] at ho
  have hi : d.i < listed.size := by rw [I.sz]; exact Nat.lt_of_lt_of_le hn hX.le
  have hls := Ls.set (listed := listed) hi
  have G := I.good d hd hl
  have hc' := hc.env I.un
  have hS : ∀ t ∈ named d.o ops.toList, ∀ e ∈ ds, ¬ Ls listed e.i → e.o.dst ≠ some t := fun t ht e he hle q => by
    obtain ⟨y, k1, k2, k3, k4⟩ := I.item e he
    have := hX.slots y k1 t (by rw [k3]; exact q) x hx
    rw [hxo] at this
    by_cases c : y.i = x.i
    · exact this.1 c ht
    · rcases (this.2 c).2 with g | g
      · exact hle (by rw [← k2]; exact hrdy _ g)
      · exact g ht
  have hF : RFmS P ρ' (fun t => t ∈ named d.o ops.toList) L N ⟨d.m.t, m.d⟩ a := ⟨I.fm.size, fun i u hs hu => I.fm.tmp i u (hS i hs) (by rw [← G.nm i hs]; exact hu), I.fm.dfs⟩
  have hr : Opd ρ' L d.m a.eval d.o.op.operands := fun y hy u hu => by
    refine hF.opd d.o.op.operands (fun t ht => named_op ht) y hy u ?_
    cases y <;> exact hu
  have hw : ∀ c, wtd ops d.m d.o = some c → Region.wanted d.o (yielded ops a.tmps) = c := fun c hcc => by
    unfold wtd at hcc
    cases hg : d.o.guard with
    | none =>
      rw [hg] at hcc
      have hcc : some true = some c := hcc
      injection hcc with hcc
      subst hcc
      unfold Region.wanted
      rw [hg]
    | some q =>
      rw [hg] at hcc
      exact want_spec (m := ⟨d.m.t, m.d⟩) hF hg (fun oj t h1 h2 => named_guard hg h1 h2) hcc
  have hres : d.nb = none → ∀ b, ρ'.res b ↔ ρ.res b ∨ ∃ d' ∈ ds, ¬ Ls (listed.setIfInBounds d.i true) d'.i ∧ ∃ o, d'.nb = some (b, o) := fun hnb b => by
    rw [I.res b]
    refine or_congr Iff.rfl ⟨fun ⟨d', h1, h2, o, h3⟩ => ⟨d', h1, fun q => ?_, o, h3⟩, fun ⟨d', h1, h2, h3⟩ => ⟨d', h1, fun q => h2 ((hls _).2 (.inl q)), h3⟩⟩
    rcases (hls _).1 q with q | q
    · exact h2 q
    · have := pw_same I.uq h1 hd q
      subst this
      rw [hnb] at h3
      cases h3
  cases hnb : d.nb with
  | none =>
    obtain ⟨c, hcc, h1, h2⟩ := G.rd hnb
    cases c with
    | false =>
      exact goes_unwanted ho (hw _ hcc) ⟨L, ρ', I.paid hX hops hd hl hx hxi hxo hrdy L.le_refl I.un (hres hnb) I.rel fun q => by rw [h2 rfl q]; exact .tup .nil⟩
    | true =>
      obtain ⟨u, h3, h4⟩ := h1 rfl
      obtain ⟨xv, w', L', k1, k2, k3, k4⟩ := pure_good hc' I.rel hr h3
      have hI := I.paid hX hops hd hl hx hxi hxo hrdy k1 I.un (hres hnb) k2 (xv := xv) fun q => by rw [← h4 q]; exact k3
      rcases k4 with k4 | ⟨rfl, k4⟩
      · exact goes_value ho (hw _ hcc) k4 ⟨L', ρ', hI⟩
      · exact goes_skip ho (hw _ hcc) k4 ⟨L', ρ', hI⟩
  | some q =>
    obtain ⟨b, ob⟩ := q
    obtain ⟨g1, g2, ⟨s0, v0, g3, g4, g5⟩, o', g6, g7⟩ := G.mkd b ob hnb
    have hrb : ρ'.res b := (I.res b).2 (.inr ⟨d, hd, hl, ob, hnb⟩)
    obtain ⟨hblt, hbL⟩ := I.rel.res b hrb
    obtain ⟨ob', vf, e1, e2, e3, co, xf, sz, nd, e4, e5⟩ := pure_made (w := w) hc' G.eff hr g4 (by simp [g3])
    subst g3
    have hob : ob = ob' := by
      have := congrArg (fun S => S.h.get s0.nx) e2
      simp only [Tr.get_put_self] at this
      injection this
    subst hob
    obtain ⟨e6, e7⟩ := e5 s0.nx (hbL 0) I.rel.below.size
    let ρn : Env := ⟨ρ'.un, fun b' => ρ'.res b' ∧ b' ≠ s0.nx⟩
    have hg0 : o'.g = 0 := g7.g.trans e3
    have hrel0 : Rel ρn w0 L s { w with drawn := nd } := Rel.env (ρ := ρ') rfl (I.rel.drew nd) fun b' hb' => I.rel.res b' hb'.1
    have hRO : RO ρn (L.put s0.nx o'.g (w.heap.size, 0, sz)) w0.heap.size (World.alloc { w with drawn := nd } co) s0.nx o' := by
      rw [hg0]
      exact g7.ro (RO.env (ρ := ρ') (ρ' := ρn) rfl e6)
    have hrel1 := hrel0.lay g6 hblt (fun q => q.2 rfl) (by rw [hg0]; exact hbL 0) co sz hRO
    rw [hg0] at hrel1
    refine goes_value ho (hw _ g2) e4 ⟨L.put s0.nx 0 (w.heap.size, 0, sz), ρn, I.paid (ρ'' := ρn) hX hops hd hl hx hxi hxo hrdy (Loc.le_put (hbL 0) _) I.un (fun b' => ?_) hrel1 fun q => ?_⟩
    · show ρ'.res b' ∧ b' ≠ s0.nx ↔ _
      rw [I.res b']
      constructor
      · rintro ⟨h | ⟨d', h1, h2, o2, h3⟩, h4⟩
        · exact .inl h
        · refine .inr ⟨d', h1, fun q => ?_, o2, h3⟩
          rcases (hls _).1 q with q | q
          · exact h2 q
          · have := pw_same I.uq h1 hd q
            subst this
            rw [hnb] at h3
            injection h3 with h3
            injection h3 with h3
            exact h4 h3.symm
      · rintro (h | ⟨d', h1, h2, o2, h3⟩)
        · exact ⟨.inl h, fun q => g1 (q ▸ h)⟩
        · have h2' : ¬ Ls listed d'.i := fun q => h2 ((hls _).2 (.inl q))
          refine ⟨.inr ⟨d', h1, h2', o2, h3⟩, fun q => ?_⟩
          subst q
          have := I.nbq d' h1 d hd h2' hl _ _ _ h3 hnb
          exact h2 ((hls _).2 (.inr this))
    · rw [← g5 q, e1]
      exact RV.env (ρ := ρ') (ρ' := ρn) rfl e7
end
end Go.RI
namespace Go.RI
open Go Go.RowKit
section
variable {P : Program} {T : Tb} {ρ ρ' ρ'' : Env} {w0 w w' : World} {L L' L0 : Loc} {s s' : St} {m : Fm} {v : V} {a a' : Act} {N n : Nat} {cal : FuncId → List V → St → Oc Rr} {ops : Array Oper} {o : Oper} {its0 its : List It} {dn : Nat} {ds : List Dn} {listed : Array Bool} {Q : R → Prop}
/-- All that may go ahead goes. -/
theorem Inv.catch (hX : Txt ops its0 n) : ∀ (f : Nat) {its : List It} {dn : Nat} {ds : List Dn} {s : St} {m : Fm} {ρ' : Env}, Inv P T ρ w0 L0 ops its0 n N its dn ds s m listed a w L ρ' → (drw T cal ops.toList f its dn ds s m).all Q →
    ∃ f' its' dn' ds' s' m' ρ'', Inv P T ρ w0 L0 ops its0 n N its' dn' ds' s' m' listed a w L ρ'' ∧ (drw T cal ops.toList f' its' dn' ds' s' m').all Q ∧ pick false dn' its' = none
  | 0, its, dn, ds, s, m, ρ', I, e => e.elim
  | f + 1, [], dn, ds, s, m, ρ', I, e => ⟨f + 1, [], dn, ds, s, m, ρ', I, e, rfl⟩
  | f + 1, x0 :: r0, dn, ds, s, m, ρ', I, e => by
    cases hp : pick false dn (x0 :: r0) with
    | none => exact ⟨f + 1, _, dn, ds, s, m, ρ', I, e, hp⟩
    | some x =>
      obtain ⟨hx, he, hb⟩ := pick_some hp
      have e1 : (match pick false dn (x0 :: r0) with
        | some a => (op1 T cal ops.toList a.o s m).bnd fun q => madeK T ops.toList s q ds fun nb => sN (Nat.lor dn (Nat.pow 2 a.i)) fun dn => rid a.i (x0 :: r0) fun its => drw T cal ops.toList f its dn (⟨a.i, a.o, m, valOf a.o q.m, nb⟩ :: ds) q.s q.m
        | none => match pick true dn (x0 :: r0) with
          | none => .no
          | some a => (op1 T cal ops.toList a.o s m).bnd fun q => cd (again T ops.toList a.p q.s ds) (sN (Nat.lor dn (Nat.pow 2 a.i)) fun dn => rid a.i (x0 :: r0) fun its => drw T cal ops.toList f its dn ds q.s q.m) .no).all Q := e
      rw [hp] at e1
      have e2 := Oc.all_bnd e1
      have hxe : isEff x.o.op = false := by rw [← (hX.op ((I.it x).1 hx).1).2.1]; exact he
      obtain ⟨v, s', c, e3, hc, h1, h2⟩ := pure_step hxe e2
      have e4 : ∀ nb, (sN (Nat.lor dn (Nat.pow 2 x.i)) fun dn => rid x.i (x0 :: r0) fun its => drw T cal ops.toList f its dn (⟨x.i, x.o, m, valOf x.o (putF x.o v m), nb⟩ :: ds) s' (putF x.o v m)).all Q → ((nb = none ∧ s' = s) ∨ ∃ ob : Ob, ob.g = 0 ∧ s' = ⟨s.h.put s.nx ob, s.nx + 1⟩ ∧ nb = some (s.nx, ob) ∧ c = true ∧ again T ops.toList 0 s' ds = true) →
          ∃ f' its' dn' ds' s' m' ρ'', Inv P T ρ w0 L0 ops its0 n N its' dn' ds' s' m' listed a w L ρ'' ∧ (drw T cal ops.toList f' its' dn' ds' s' m').all Q ∧ pick false dn' its' = none := fun nb e5 hnb => by
        rw [sN_eq, rid_eq I.pw] at e5
        obtain ⟨ρ'', I'⟩ := I.owe hX hx he hb hc h1 h2 hnb
        exact Inv.catch hX f I' e5
      have e3 : (madeK T ops.toList s ⟨.nrm, s', putF x.o v m⟩ ds fun nb => sN (Nat.lor dn (Nat.pow 2 x.i)) fun dn => rid x.i (x0 :: r0) fun its => drw T cal ops.toList f its dn (⟨x.i, x.o, m, valOf x.o (putF x.o v m), nb⟩ :: ds) s' (putF x.o v m)).all Q := e3
      unfold madeK at e3
      have hor : s' = s ∨ c = true ∧ ∃ ob : Ob, ob.g = 0 ∧ s' = ⟨s.h.put s.nx ob, s.nx + 1⟩ := by
        cases c with
        | false => exact .inl (h2 rfl).2
        | true =>
          rcases rvOp_or (T := T) (m := m) (s := s) hxe with k | ⟨-, k⟩
          · exact .inl (k _ _ (h1 rfl))
          · rcases k _ _ (h1 rfl) with k | k
            · exact .inl k
            · exact .inr ⟨rfl, k⟩
      rcases hor with rfl | ⟨hct, ob, hg, rfl⟩
      · rw [show Nat.beq s'.nx (R.mk .nrm s' (putF x.o v m)).s.nx = true from Nat.beq_refl _, cd_true] at e3
        exact e4 none e3 (.inl ⟨rfl, rfl⟩)
      · have hne : Nat.beq s.nx (R.mk .nrm (⟨s.h.put s.nx ob, s.nx + 1⟩ : St) (putF x.o v m)).s.nx = false := by
          cases hb : Nat.beq s.nx (R.mk .nrm (⟨s.h.put s.nx ob, s.nx + 1⟩ : St) (putF x.o v m)).s.nx with
          | false => rfl
          | true =>
            have := beq_iff.1 hb
            have : s.nx = s.nx + 1 := this
            omega
        rw [hne, cd_false] at e3
        replace e3 := on_all e3
        obtain ⟨ob', hob, e3⟩ := e3
        have hob : (s.h.put s.nx ob).get s.nx = some ob' := hob
        rw [Tr.get_put_self] at hob
        injection hob with hob
        subst hob
        replace e3 := cd_all e3
        obtain ⟨hag, e3⟩ := e3
        exact e4 _ e3 (.inr ⟨ob, hg, rfl, rfl, hct, hag⟩)
/-- One that changes things. -/
theorem Inv.eff (hX : Txt ops its0 n) (hc : Ctx P T ρ w0) (hcal : ∀ ρ' : Env, ρ.un = ρ'.un → SpecF P ρ' w0 cal) (I : Inv P T ρ w0 L0 ops its0 n N its dn ds s m listed a w L ρ') (hops : ∀ o ∈ ops.toList, OOk N o) {f : Nat} (e : (drw T cal ops.toList f its dn ds s m).all Q) (hp : pick false dn its = none)
    {x : It} (hx : x ∈ its0) (hxd : bit dn x.i = false) (hrdy : ∀ j, bit x.p j = true → Ls listed j) :
    Goes1 P ops x.i (fun a' w' => ∃ f' its' dn' s' m' L', Inv P T ρ w0 L0 ops its0 n N its' dn' ds s' m' (listed.setIfInBounds x.i true) a' w' L' ρ' ∧ (drw T cal ops.toList f' its' dn' ds s' m').all Q) a w := by
  obtain ⟨ho, he, hn⟩ := hX.op hx
  have hxi : x ∈ its := (I.it x).2 ⟨hx, hxd⟩
  have hi : x.i < listed.size := by rw [I.sz]; exact Nat.lt_of_lt_of_le hn hX.le
  have hls := Ls.set (listed := listed) hi
  have hpd : ∀ j, bit x.p j = true → bit dn j = true := fun j hj => by
    have hl := hrdy j hj
    have hjn : j < n := by
      rcases Nat.lt_or_ge j n with h | h
      · exact h
      · exact absurd hl (I.tl j h)
    obtain ⟨y, hy, hyj⟩ := hX.ex hjn
    rw [← hyj] at hl ⊢
    exact I.ld y hy hl
  cases hxe : x.e with
  | false => exact (pick_none hp x hxi hxe hpd).elim
  | true =>
    cases f with
    | zero => exact e.elim
    | succ f =>
      cases its with
      | nil => simp at hxi
      | cons x0 r0 =>
        have e1 : (match pick false dn (x0 :: r0) with
          | some a => (op1 T cal ops.toList a.o s m).bnd fun q => madeK T ops.toList s q ds fun nb => sN (Nat.lor dn (Nat.pow 2 a.i)) fun dn => rid a.i (x0 :: r0) fun its => drw T cal ops.toList f its dn (⟨a.i, a.o, m, valOf a.o q.m, nb⟩ :: ds) q.s q.m
          | none => match pick true dn (x0 :: r0) with
            | none => .no
            | some a => (op1 T cal ops.toList a.o s m).bnd fun q => cd (again T ops.toList a.p q.s ds) (sN (Nat.lor dn (Nat.pow 2 a.i)) fun dn => rid a.i (x0 :: r0) fun its => drw T cal ops.toList f its dn ds q.s q.m) .no).all Q := e
        rw [hp] at e1
        cases hpt : pick true dn (x0 :: r0) with
        | none => rw [hpt] at e1; exact e1.elim
        | some y =>
          rw [hpt] at e1
          obtain ⟨hy, hye, hyb⟩ := pick_some hpt
          obtain ⟨hy0, hyd⟩ := (I.it y).1 hy
          have hyx : y = x := by
            obtain ⟨k1, g1⟩ := List.getElem?_of_mem hy0
            obtain ⟨k2, g2⟩ := List.getElem?_of_mem hx
            have i1 := (hX.at_ k1 y g1).1
            have i2 := (hX.at_ k2 x g2).1
            rcases Nat.lt_trichotomy k1 k2 with h | h | h
            · have := hpd _ (hX.chain k1 k2 y x h g1 g2 hye hxe)
              rw [this] at hyd
              cases hyd
            · exact hX.same hy0 hx (by omega)
            · have := hyb _ (hX.chain k2 k1 x y h g2 g1 hxe hye)
              rw [this] at hxd
              cases hxd
          subst hyx
          have e2 := Oc.all_ev (Oc.all_bnd e1) (op1_fr (T := T) (cal := cal) (ops := ops) (o := y.o) (s := s) (m := m))
          have hdn : ∀ j, bit (Nat.lor dn (Nat.pow 2 y.i)) j = true ↔ bit dn j = true ∨ y.i = j := fun j => by
            rw [bit_lor, bit_pow]
            simp
          have hold : ∀ d ∈ ds, ∃ z ∈ its0, z.i = d.i ∧ z.o = d.o ∧ bit dn d.i = true ∧ z.i ≠ y.i := fun d hd => by
            obtain ⟨z, k1, k2, k3, k4⟩ := I.item d hd
            exact ⟨z, k1, k2, k3, k4, fun q => by rw [← k2, q, hxd] at k4; cases k4⟩
          have hlsd : ∀ d ∈ ds, (Ls (listed.setIfInBounds y.i true) d.i ↔ Ls listed d.i) := fun d hd => by
            obtain ⟨z, k1, k2, k3, k4, k5⟩ := hold d hd
            rw [hls]
            exact ⟨fun h => h.resolve_right fun q => k5 (k2.trans q), .inl⟩
          have hnS : ∀ t ∈ named y.o ops.toList, ∀ d ∈ ds, ¬ Ls listed d.i → d.o.dst ≠ some t := fun t ht d hd hl q => by
            obtain ⟨z, k1, k2, k3, k4, k5⟩ := hold d hd
            rcases ((hX.slots z k1 t (by rw [k3]; exact q) y hx).2 k5).2 with g | g
            · exact hl (by rw [← k2]; exact hrdy _ g)
            · exact g ht
          refine op1_spec (S := fun t => ∀ d ∈ ds, ¬ Ls listed d.i → d.o.dst ≠ some t) (S' := fun t => ∀ d ∈ ds, ¬ Ls listed d.i → d.o.dst ≠ some t) (hc.env I.un) (hcal ρ' I.un) ho (hops y.o (by rw [← Array.getElem?_toList] at ho; exact List.mem_of_getElem? ho)) I.rel I.fm (fun t ht => hnS t (named_op ht)) (fun t ht => .inl ht) (fun q oj t h1 h2 h3 => hnS t (named_guard h1 h2 h3)) (Oc.all_mono (fun q hq => ?_) e2)
          obtain ⟨hfr, hq⟩ := hq
          replace hq := cd_all hq
          obtain ⟨hag, hq⟩ := hq
          rw [sN_eq, rid_eq I.pw] at hq
          intro L' a' w' hle hrel hfm
          refine ⟨f, _, _, q.s, q.m, L', ?_, hq⟩
          have hnb : ∀ d ∈ ds, ¬ Ls listed d.i → bit y.p d.i = false := fun d hd hl => by
            cases hb : bit y.p d.i with
            | true => exact absurd (hrdy _ hb) hl
            | false => rfl
          refine ⟨by simp [I.sz], fun z hz hl j hj => ?_, fun k hk => ?_, fun z hz hl => ?_, fun z hz hb j hj => ?_, fun z => ?_, I.pw.filter _, fun z hz hb hl => ?_, fun d hd => ?_, I.uq, fun d hd hl => ?_, fun d hd d' hd' h1 h2 => I.nbq d hd d' hd' (fun q => h1 ((hlsd d hd).2 q)) (fun q => h2 ((hlsd d' hd').2 q)), I.un, fun b => ?_, Loc.le_trans I.le hle, hrel, hfm.weaken fun t ht d hd hl => ht d hd fun q => hl ((hlsd d hd).1 q)⟩
          · rcases (hls _).1 hl with hl | hl
            · exact (hls _).2 (.inl (I.cl z hz hl j hj))
            · have := hX.same hz hx hl
              subst this
              exact (hls _).2 (.inl (hrdy j hj))
          · rw [hls]
            rintro (h | h)
            · exact I.tl k hk h
            · omega
          · rcases (hls _).1 hl with hl | hl
            · exact (hdn _).2 (.inl (I.ld z hz hl))
            · exact (hdn _).2 (.inr hl.symm)
          · rcases (hdn _).1 hb with hb | hb
            · exact (hdn _).2 (.inl (I.dcl z hz hb j hj))
            · have := hX.same hx hz hb
              subst this
              exact (hdn _).2 (.inl (hpd j hj))
          · rw [List.mem_filter, I.it z]
            have hyz : (!Nat.beq z.i y.i) = true ↔ ¬ y.i = z.i := by
              cases hb : Nat.beq z.i y.i with
              | true => simp [(beq_iff.1 hb).symm]
              | false =>
                simp only [Bool.not_false, true_iff]
                intro q
                rw [q, Nat.beq_refl] at hb
                cases hb
            rw [hyz]
            have := hdn z.i
            cases hb : bit (Nat.lor dn (Nat.pow 2 y.i)) z.i with
            | true =>
              rw [hb] at this
              have := this.1 rfl
              refine ⟨fun ⟨⟨_, h1⟩, h2⟩ => ?_, fun ⟨_, q⟩ => by cases q⟩
              rcases this with k | k
              · rw [k] at h1; cases h1
              · exact absurd k h2
            | false =>
              rw [hb] at this
              refine ⟨fun ⟨⟨h0, _⟩, _⟩ => ⟨h0, rfl⟩, fun ⟨h0, _⟩ => ⟨⟨h0, ?_⟩, fun q => by have := this.2 (.inr q); cases this⟩⟩
              cases hb2 : bit dn z.i with
              | true => have := this.2 (.inl hb2); cases this
              | false => rfl
          · have hne : y.i ≠ z.i := fun q => hl ((hls _).2 (.inr q.symm))
            exact I.has z hz (((hdn _).1 hb).resolve_right hne) fun q => hl ((hls _).2 (.inl q))
          · obtain ⟨z, k1, k2, k3, k4, -⟩ := hold d hd
            exact ⟨z, k1, k2, k3, (hdn _).2 (.inl k4)⟩
          · have hl0 : ¬ Ls listed d.i := fun q => hl ((hlsd d hd).2 q)
            have G := I.good d hd hl0
            obtain ⟨z, k1, k2, k3, k4, k5⟩ := hold d hd
            have hag' := again_spec hag d hd (hnb d hd hl0)
            refine ⟨fun t ht => ?_, fun t ht => ?_, G.eff, fun b ob q => ?_, fun q => ?_⟩
            · rw [hfr t fun q => ?_]
              · exact G.nm t ht
              · rcases ((hX.slots y hx t q z k1).2 fun q => k5 q.symm).2 with g | g
                · have := I.dcl z k1 (by rw [k2]; exact k4) _ g
                  rw [this] at hxd
                  cases hxd
                · rw [k3] at g
                  exact g ht
            · rw [hfr t fun q => ?_]
              · exact G.dst t ht
              · have := ((hX.slots y hx t q z k1).2 fun q => k5 q.symm).1
                rw [k3] at this
                exact this ht
            · obtain ⟨g1, g2, g3, -⟩ := G.mkd b ob q
              exact ⟨g1, g2, g3, hag'.1 b ob q⟩
            · obtain ⟨c', g1, g2, g3⟩ := G.rd q
              refine ⟨c', g1, fun hc' => ?_, g3⟩
              subst hc'
              exact ⟨d.v, sameV_true (hag'.2 q g1) G.eff, fun _ => rfl⟩
          · rw [I.res b]
            exact or_congr Iff.rfl ⟨fun ⟨d, h1, h2, h3⟩ => ⟨d, h1, fun q => h2 ((hlsd d h1).1 q), h3⟩, fun ⟨d, h1, h2, h3⟩ => ⟨d, h1, fun q => h2 ((hlsd d h1).2 q), h3⟩⟩
/-- What comes behind, in its order. -/
theorem tail_any (hX : Txt ops its0 n) (hc : Ctx P T ρ w0) (hcal : SpecF P ρ w0 cal) (hops : ∀ o ∈ ops.toList, OOk N o) {K : Act → World → Prop} : ∀ (l : List Oper) (k : Nat) {listed : Array Bool} {s : St} {m : Fm} {L : Loc} {a : Act} {w : World}, l = ops.toList.drop k → n ≤ k → k ≤ ops.size → listed.size = ops.size → (∀ j, j < ops.size → (Ls listed j ↔ j < k)) → Rel ρ w0 L s w → RFm P ρ L N m a →
    (seqO T cal ops.toList l s m).all (Post P ρ w0 L N (fun _ => True) K) → ∀ c, ops.size - k ≤ c → AnyG P ops K c listed a w
  | [], k, listed, s, m, L, a, w, hl, hn, hk, hsz, hls, h, hm, e, c, hcn => by
    have hK : K a w := (show Post P ρ w0 L N (fun _ => True) K ⟨.nrm, s, m⟩ from e) L a w L.le_refl h hm
    have hk' : k = ops.size := by
      have := congrArg List.length hl
      simp at this
      omega
    have hno : ∀ i, i ∉ Region.ready .any ops listed := fun i hi => by
      obtain ⟨h1, h2, -⟩ := ready_ahead hi
      have := (hls i h1).2 (by omega)
      unfold Ls at this
      rw [this] at h2
      cases h2
    cases c with
    | zero => exact ⟨List.eq_nil_iff_forall_not_mem.2 hno, hK⟩
    | succ c => exact ⟨fun _ => hK, fun i hi => absurd hi (hno i)⟩
  | o :: l, k, listed, s, m, L, a, w, hl, hn, hk, hsz, hls, h, hm, e, c, hcn => by
    have hk' : k < ops.size := by
      have := congrArg List.length hl
      simp at this
      omega
    have ho : ops[k]? = some o := by
      have := congrArg (fun x => x[0]?) hl
      simp at this
      simpa using this.symm
    have hl' : l = ops.toList.drop (k + 1) := by
      have := congrArg List.tail hl
      simpa using this
    have hrd : ∀ i, i ∈ Region.ready .any ops listed → i = k := fun i hi => by
      obtain ⟨h1, h2, h3⟩ := ready_ahead hi
      rcases Nat.lt_trichotomy i k with g | g | g
      · have := (hls i h1).2 g
        unfold Ls at this
        rw [this] at h2
        cases h2
      · exact g
      · obtain ⟨e, g1, g2, g3⟩ := hX.tail2 i _ (by omega) (Array.getElem?_eq_getElem h1) k g
        have g4 := h3 _ (Array.getElem?_eq_getElem h1) e g1 g2
        have g5 : e.on < i := hX.back i _ (Array.getElem?_eq_getElem h1) e g1 g2
        have := (hls e.on (by omega)).1 g4
        omega
    cases c with
    | zero => omega
    | succ c =>
      refine ⟨fun hr => ?_, fun i hi => ?_⟩
      · have := ready_nil hX.back hsz hr k hk'
        have := (hls k hk').1 this
        omega
      · have := hrd i hi
        subst this
        replace e := Oc.all_bnd (show ((op1 T cal ops.toList o s m).bnd fun q => seqO T cal ops.toList l q.s q.m).all _ from e)
        refine op1_spec (S := fun _ => True) (S' := fun _ => True) hc hcal ho (hops o (by rw [← Array.getElem?_toList] at ho; exact List.mem_of_getElem? ho)) h hm (fun _ _ => trivial) (fun _ _ => .inl trivial) (fun _ _ _ _ _ _ => trivial) (Oc.all_mono (fun q hq L' a' w' hle hrel hm' => ?_) e)
        refine tail_any hX hc hcal hops l (i + 1) hl' (by omega) (by omega) (by simp [hsz]) (fun j hj => ?_) hrel hm' (Oc.all_mono (fun r hr L2 a2 w2 hle2 => hr L2 a2 w2 (Loc.le_trans hle hle2)) hq) c (by omega)
        rw [Ls.set (by omega), hls j hj]
        omega
/-- How many are not listed. -/
def unl (listed : Array Bool) : Nat := listed.toList.count false
theorem unl_set {i : Nat} (h : i < listed.size) (hl : listed[i]?.getD true = false) : unl (listed.setIfInBounds i true) + 1 = unl listed := by
  unfold unl
  have h' : i < listed.toList.length := by simpa using h
  have hv : listed.toList[i] = false := by
    rw [Array.getElem?_eq_getElem h] at hl
    simpa using hl
  have hpos : 0 < listed.toList.count false := List.count_pos_iff.2 (by rw [← hv]; exact List.getElem_mem h')
  rw [Array.toList_setIfInBounds, List.count_set h', hv]
  simp only [beq_self_eq_true, if_true, show (true == false) = false from rfl, Bool.false_eq_true, if_false]
  omega
theorem unl_ge (h : ∀ k, n ≤ k → ¬ Ls listed k) : listed.size - n ≤ unl listed := by
  unfold unl
  have h1 : (listed.toList.drop n).count false = (listed.toList.drop n).length := by
    rw [List.count_eq_length]
    intro b hb
    obtain ⟨k, hk⟩ := List.getElem?_of_mem hb
    rw [List.getElem?_drop] at hk
    have := h (n + k) (by omega)
    unfold Ls at this
    cases b with
    | false => rfl
    | true => exact absurd (by simpa using hk) this
  have h2 := (List.drop_sublist n listed.toList).count_le false
  rw [h1] at h2
  simpa using h2
theorem unl_zero (h : unl listed = 0) {i : Nat} (hi : i < listed.size) : Ls listed i := by
  unfold unl at h
  rw [List.count_eq_zero] at h
  unfold Ls
  rw [Array.getElem?_eq_getElem hi]
  cases hb : listed[i] with
  | true => rfl
  | false =>
    refine absurd ?_ h
    rw [← hb]
    simp
/-- Any order. -/
theorem any_main (hX : Txt ops its0 n) (hc : Ctx P T ρ w0) (hcal : ∀ ρ' : Env, ρ.un = ρ'.un → SpecF P ρ' w0 cal) (hops : ∀ o ∈ ops.toList, OOk N o) {K : Act → World → Prop} : ∀ (c : Nat) {listed : Array Bool} {a : Act} {w : World} {its : List It} {dn : Nat} {ds : List Dn} {s : St} {m : Fm} {L : Loc} {ρ' : Env} {f : Nat}, unl listed ≤ c → Inv P T ρ w0 L0 ops its0 n N its dn ds s m listed a w L ρ' →
    (drw T cal ops.toList f its dn ds s m).all (fun q => (seqO T cal ops.toList (ops.toList.drop n) q.s q.m).all (Post P ρ w0 L0 N (fun _ => True) K)) → AnyG P ops K c listed a w := by
  intro c
  induction c with
  | zero =>
    intro listed a w its dn ds s m L ρ' f hu I e
    obtain ⟨f', its', dn', ds', s', m', ρ'', I', e', hp⟩ := I.catch hX f e
    exact fin_any hX hc hcal hops I' e' (fun x hx => unl_zero (by omega) (by rw [I.sz]; exact Nat.lt_of_lt_of_le (hX.op hx).2.2 hX.le)) 0 (by
      rcases Nat.lt_or_ge n ops.size with h | h
      · exact absurd (unl_zero (listed := listed) (by omega) (by rw [I.sz]; exact h)) (I.tl n (Nat.le_refl _))
      · omega)
  | succ c ih =>
    intro listed a w its dn ds s m L ρ' f hu I e
    obtain ⟨f', its', dn', ds', s', m', ρ'', I', e', hp⟩ := I.catch hX f e
    by_cases hall : ∀ x ∈ its0, Ls listed x.i
    · refine fin_any hX hc hcal hops I' e' hall (c + 1) ?_
      refine Nat.le_trans ?_ hu
      have := unl_ge I'.tl
      rwa [I'.sz] at this
    · have hall' : ∃ x ∈ its0, ¬ Ls listed x.i := by
        rcases Classical.em (∃ x ∈ its0, ¬ Ls listed x.i) with h | h
        · exact h
        · exact absurd (fun x hx => Classical.byContradiction fun q => h ⟨x, hx, q⟩) hall
      obtain ⟨x0, hx0, hx0l⟩ := hall'
      have hx0n := (hX.op hx0).2.2
      refine ⟨fun hr => ?_, fun i hi => ?_⟩
      · exact absurd (ready_nil hX.back I'.sz hr x0.i (Nat.lt_of_lt_of_le hx0n hX.le)) hx0l
      · obtain ⟨h1, h2, h3⟩ := ready_ahead hi
        have hu' : unl (listed.setIfInBounds i true) ≤ c := by
          have := unl_set (by rw [I.sz]; exact h1) h2
          omega
        have hnl : ¬ Ls listed i := fun q => by
          unfold Ls at q
          rw [q] at h2
          cases h2
        rcases Nat.lt_or_ge i n with hin | hin
        · obtain ⟨x, hx, rfl⟩ := hX.ex hin
          have hrdy := hX.rdy (Ls listed) I'.cl I'.tl x hx (fun e he hb => h3 x.o (hX.op hx).1 e he hb)
          cases hxd : bit dn' x.i with
          | true =>
            obtain ⟨d, hd, hdi⟩ := I'.has x hx hxd hnl
            obtain ⟨y, k1, k2, k3, k4⟩ := I'.item d hd
            have : x = y := hX.same hx k1 (hdi.symm.trans k2.symm)
            subst this
            have := I'.pay hX hc hops hd (by rw [hdi]; exact hnl) hx k2 k3 hrdy
            rw [hdi] at this
            exact this.mono fun a' w' ⟨L', ρ3, I3⟩ => ih hu' I3 e'
          | false =>
            exact (I'.eff hX hc hcal hops e' hp hx hxd hrdy).mono fun a' w' ⟨f3, its3, dn3, s3, m3, L', I3, e3⟩ => ih hu' I3 e3
        · exact absurd (hX.tail (Ls listed) I'.cl I'.tl i _ hin (Array.getElem?_eq_getElem h1) (fun e he hb => h3 _ (Array.getElem?_eq_getElem h1) e he hb) x0.i (by omega)) hx0l
where
  fin_any (hX : Txt ops its0 n) (hc : Ctx P T ρ w0) (hcal : ∀ ρ' : Env, ρ.un = ρ'.un → SpecF P ρ' w0 cal) (hops : ∀ o ∈ ops.toList, OOk N o) {K : Act → World → Prop} {listed : Array Bool} {a : Act} {w : World} {its : List It} {dn : Nat} {ds : List Dn} {s : St} {m : Fm} {L : Loc} {ρ' : Env} {f : Nat} (I : Inv P T ρ w0 L0 ops its0 n N its dn ds s m listed a w L ρ')
      (e : (drw T cal ops.toList f its dn ds s m).all (fun q => (seqO T cal ops.toList (ops.toList.drop n) q.s q.m).all (Post P ρ w0 L0 N (fun _ => True) K))) (hall : ∀ x ∈ its0, Ls listed x.i) (c : Nat) (hcn : ops.size - n ≤ c) : AnyG P ops K c listed a w := by
    cases f with
    | zero => exact e.elim
    | succ f =>
      have hi : its = [] := by
        cases its with
        | nil => rfl
        | cons y r =>
          obtain ⟨k1, k2⟩ := (I.it y).1 (List.mem_cons_self)
          rw [I.ld y k1 (hall y k1)] at k2
          cases k2
      subst hi
      have e : (seqO T cal ops.toList (ops.toList.drop n) s m).all (Post P ρ w0 L0 N (fun _ => True) K) := e
      have hlsn : ∀ d ∈ ds, Ls listed d.i := fun d hd => by
        obtain ⟨y, k1, k2, k3, k4⟩ := I.item d hd
        rw [← k2]
        exact hall y k1
      have hrel : Rel ρ w0 L s w := Rel.env I.un.symm I.rel fun b hb => I.rel.res b ((I.res b).2 (.inl hb))
      have hfm : RFm P ρ L N m a := RFmS.env I.un.symm (I.fm.weaken fun t _ d hd hl => absurd (hlsn d hd) hl)
      refine tail_any hX hc (hcal ρ rfl) hops _ n rfl (Nat.le_refl _) hX.le I.sz (fun j hj => ⟨fun h => ?_, fun h => ?_⟩) hrel hfm (Oc.all_mono (fun r hr L2 a2 w2 hle2 => hr L2 a2 w2 (Loc.le_trans I.le hle2)) e) c hcn
      · rcases Nat.lt_or_ge j n with g | g
        · exact g
        · exact absurd h (I.tl j g)
      · obtain ⟨y, k1, k2⟩ := hX.ex h
        rw [← k2]
        exact hall y k1
end
end Go.RI
namespace Go.RI
open Go Go.RowKit
section
variable {P : Program} {T : Tb} {ρ ρ' : Env} {w0 w : World} {L : Loc} {s : St} {m : Fm} {a : Act} {N n : Nat} {cal : FuncId → List V → St → Oc Rr} {ops : Array Oper} {its0 : List It}
theorem drw_nrm {all : List Oper} {Q : R → Prop} : ∀ {f : Nat} {its : List It} {dn : Nat} {ds : List Dn} {s : St} {m : Fm}, (drw T cal all f its dn ds s m).all Q → (drw T cal all f its dn ds s m).all fun q => q.x = .nrm ∧ Q q
  | 0, _, _, _, _, _, h => h.elim
  | f + 1, [], dn, ds, s, m, h => ⟨rfl, h⟩
  | f + 1, x :: r, dn, ds, s, m, h => by
    have e1 : (match pick false dn (x :: r) with
      | some a => (op1 T cal all a.o s m).bnd fun q => madeK T all s q ds fun nb => sN (Nat.lor dn (Nat.pow 2 a.i)) fun dn => rid a.i (x :: r) fun its => drw T cal all f its dn (⟨a.i, a.o, m, valOf a.o q.m, nb⟩ :: ds) q.s q.m
      | none => match pick true dn (x :: r) with
        | none => .no
        | some a => (op1 T cal all a.o s m).bnd fun q => cd (again T all a.p q.s ds) (sN (Nat.lor dn (Nat.pow 2 a.i)) fun dn => rid a.i (x :: r) fun its => drw T cal all f its dn ds q.s q.m) .no).all Q := h
    show (match pick false dn (x :: r) with
      | some a => (op1 T cal all a.o s m).bnd fun q => madeK T all s q ds fun nb => sN (Nat.lor dn (Nat.pow 2 a.i)) fun dn => rid a.i (x :: r) fun its => drw T cal all f its dn (⟨a.i, a.o, m, valOf a.o q.m, nb⟩ :: ds) q.s q.m
      | none => match pick true dn (x :: r) with
        | none => .no
        | some a => (op1 T cal all a.o s m).bnd fun q => cd (again T all a.p q.s ds) (sN (Nat.lor dn (Nat.pow 2 a.i)) fun dn => rid a.i (x :: r) fun its => drw T cal all f its dn ds q.s q.m) .no).all _
    have rd : ∀ {i : Nat} {l : List It} {k : List It → Oc R}, (∀ l, (k l).all Q → (k l).all fun q => q.x = .nrm ∧ Q q) → (rid i l k).all Q → (rid i l k).all fun q => q.x = .nrm ∧ Q q := by
      intro i l
      induction l with
      | nil => exact fun hk h => hk _ h
      | cons y l ih =>
        intro k hk h
        unfold rid at h ⊢
        cases hb : Nat.beq y.i i with
        | true => rw [hb] at h; exact hk _ h
        | false => rw [hb] at h; exact ih (fun l h => hk _ h) h
    cases hpf : pick false dn (x :: r) with
    | some y =>
      rw [hpf] at e1
      refine Oc.bnd_all (Oc.all_mono (fun q hq => ?_) (Oc.all_bnd e1))
      unfold madeK at hq ⊢
      have go : ∀ nb, (sN (Nat.lor dn (Nat.pow 2 y.i)) fun dn => rid y.i (x :: r) fun its => drw T cal all f its dn (⟨y.i, y.o, m, valOf y.o q.m, nb⟩ :: ds) q.s q.m).all Q → (sN (Nat.lor dn (Nat.pow 2 y.i)) fun dn => rid y.i (x :: r) fun its => drw T cal all f its dn (⟨y.i, y.o, m, valOf y.o q.m, nb⟩ :: ds) q.s q.m).all fun q => q.x = .nrm ∧ Q q := fun nb h => by
        rw [sN_eq] at h ⊢
        exact rd (fun l h => drw_nrm h) h
      cases hb : Nat.beq s.nx q.s.nx with
      | true => rw [hb, cd_true] at hq; exact go _ hq
      | false =>
        rw [hb, cd_false] at hq
        rw [cd_false]
        replace hq := on_all hq
        obtain ⟨ob, ho, hq⟩ := hq
        rw [ho]
        replace hq := cd_all hq
        obtain ⟨ha, hq⟩ := hq
        rw [show ∀ k : Ob → Oc R, on (some ob) Oc.no k = k ob from fun _ => rfl, ha]
        exact go _ hq
    | none =>
      rw [hpf] at e1
      cases hp : pick true dn (x :: r) with
      | none => rw [hp] at e1; exact e1.elim
      | some y =>
        rw [hp] at e1
        refine Oc.bnd_all (Oc.all_mono (fun q hq => ?_) (Oc.all_bnd e1))
        replace hq := cd_all hq
        obtain ⟨ha, hq⟩ := hq
        rw [ha, cd_true]
        rw [sN_eq] at hq ⊢
        exact rd (fun l h => drw_nrm h) hq
/-- A region that draws its order. -/
theorem draw_spec (hc : Ctx P T ρ w0) (hcal : ∀ ρ' : Env, ρ.un = ρ'.un → SpecF P ρ' w0 cal) : SpecD P T ρ w0 cal := by
  intro id ops s m L N a w Q hops h hm e
  have e : (cd (drOf ops.toList).ok ((drw T cal ops.toList (Nat.succ (drOf ops.toList).n) (drOf ops.toList).its 0 [] s m).bnd fun q => seqO T cal ops.toList (drOf ops.toList).tl q.s q.m) .no).all (PostC P ρ w0 L N Q) := e
  replace e := cd_all e
  obtain ⟨hok, e⟩ := e
  obtain ⟨hX, htl⟩ := drOf_txt hok
  generalize (drOf ops.toList).its = its0 at e hX
  rw [htl] at e
  generalize (drOf ops.toList).n = n at e hX
  have e := drw_nrm (Oc.all_bnd e)
  have e2 := Oc.all_mono (q := fun q => (seqO T cal ops.toList (ops.toList.drop n) q.s q.m).all (Post P ρ w0 L N (fun _ => True) (Q .normal))) (fun q hq => Oc.all_mono (fun r hr L' a' w' h1 h2 h3 => by
    have := hr.2 L' a' w' h1 h2 h3
    rw [hr.1] at this
    exact this) (seqO_nrm hq.2)) e
  refine wp_any hc.mixed (any_main (f := Nat.succ n) (L := L) (L0 := L) (ρ' := ρ) hX hc hcal hops ops.size ?_ ?_ e2)
  · unfold unl
    refine Nat.le_trans (List.count_le_length) ?_
    simp
  · have hno : ∀ i, ¬ Ls (Array.replicate ops.size false) i := fun i q => by
      unfold Ls at q
      rw [Array.getElem?_replicate] at q
      split at q <;> cases q
    have hz : ∀ i, bit 0 i = false := bit_zero
    refine ⟨by simp, fun x _ q => absurd q (hno _), fun k _ => hno k, fun x _ q => absurd q (hno _), fun x _ q => (by rw [hz] at q; cases q), fun x => ⟨fun q => ⟨q, hz _⟩, fun q => q.1⟩, ?_, fun x _ q => (by rw [hz] at q; cases q), fun d hd => by simp at hd, List.Pairwise.nil, fun d hd => by simp at hd, fun d hd => by simp at hd, rfl, fun b => ⟨.inl, fun q => q.resolve_right fun ⟨d, hd, _⟩ => by simp at hd⟩, L.le_refl, h.drew _, hm.weaken fun _ _ => trivial⟩
    rw [List.pairwise_iff_getElem]
    intro i j hi hj hlt q
    have h1 := (hX.at_ i _ (List.getElem?_eq_getElem hi)).1
    have h2 := (hX.at_ j _ (List.getElem?_eq_getElem hj)).1
    omega
variable {nat : FuncId → List V → St → Option (Oc Rr)} {dnat : FuncId → List V → St → Option St}
/-- Code, and calls, of so many levels: all of it. -/
theorem both_run (hc : Ctx P T ρ w0) (hf : FnsOk T) (hn : ∀ ρ' : Env, ρ.un = ρ'.un → SpecN P ρ' w0 nat) (hdn : ∀ ρ' : Env, ρ.un = ρ'.un → SpecDn P ρ' w0 dnat) (n : Nat) : SpecC P ρ w0 (both T nat dnat n).e ∧ SpecF P ρ w0 (both T nat dnat n).c :=
  both_all hc hf hn hdn (fun cal hcal ρ' hu => draw_spec (hc.env hu) fun ρ'' h => hcal ρ'' (hu.trans h)) n ρ rfl
end
end Go.RI
namespace Go.RI
open Go Go.RowKit
/-! a program's tables -/
noncomputable def drop64 {α : Type} (l : List α) : List α := drp 64 l
noncomputable def chunks {α β : Type} : Nat → List α → Nat → Tr (List α) → (Tr (List α) → β) → β
  | 0, _, _, t, k => k t
  | f + 1, l, i, t, k => match l with
    | [] => k t
    | _ => t.set i l fun t => sN (Nat.succ i) fun i => chunks f (drop64 l) i t k
noncomputable def tabOf {α : Type} (l : List α) : Tr (List α) := chunks 100 l 0 .lf fun t => t
noncomputable def tabAt {α : Type} (t : Tr (List α)) (n : Nat) : Option α := on (t.get (Nat.div n 64)) none fun l => nth l (Nat.mod n 64)
theorem chunks_get {α : Type} (A : List α) : ∀ (f : Nat) (l : List α) (i : Nat) (t : Tr (List α)), l = A.drop (64 * i) → (∀ j y, t.get j = some y → y = A.drop (64 * j)) → ∀ j y, (chunks f l i t fun t => t).get j = some y → y = A.drop (64 * j)
  | 0, l, i, t, hl, ht, j, y, h => ht j y h
  | f + 1, [], i, t, hl, ht, j, y, h => ht j y h
  | f + 1, x :: r, i, t, hl, ht, j, y, h => by
    have h : (t.set i (x :: r) fun t => sN (Nat.succ i) fun i => chunks f (drop64 (x :: r)) i t fun t => t).get j = some y := h
    rw [Tr.set_put, sN_eq] at h
    refine chunks_get A f _ _ _ ?_ (fun j y hj => ?_) j y h
    · unfold drop64
      rw [drp_eq, hl, List.drop_drop]
      congr 1
    · rw [Tr.get_put] at hj
      by_cases c : j = i
      · rw [if_pos c] at hj
        injection hj with hj
        rw [← hj, c]
        exact hl
      · rw [if_neg c] at hj
        exact ht j y hj
theorem tab_spec {α : Type} {l : List α} {n : Nat} {x : α} (h : tabAt (tabOf l) n = some x) : l[n]? = some x := by
  unfold tabAt at h
  replace h := on_some h
  obtain ⟨r, hr, h⟩ := h
  have := chunks_get l 100 l 0 .lf (by simp) (fun j y hj => by cases hj) _ r hr
  rw [nth_eq, this, List.getElem?_drop] at h
  have h64 : 64 * Nat.div n 64 + Nat.mod n 64 = n := Nat.div_add_mod n 64
  rwa [h64] at h
/-! all functions' slots are there -/
noncomputable def oOkB (N : Nat) (o : Oper) : Bool := on o.dst true fun d => Nat.blt d N
noncomputable def osOkB (N : Nat) (l : List Oper) : Bool := @List.rec Oper (fun _ => Bool) true (fun o _ ih => an (oOkB N o) ih) l
noncomputable def cOkB (N : Nat) (c : Code) : Bool := @Code.rec (fun _ => Bool) true (fun _ ops _ => osOkB N ops.toList) (fun _ _ a b => an a b) (fun _ _ _ a b => an a b) (fun _ _ a => a) (fun _ a => a)
  (fun _ _ _ _ _ _ => true) (fun _ => true) (fun _ _ => true) (fun _ => true) (fun _ => true) true (fun _ => true) c
theorem osOkB_spec {N : Nat} : ∀ {l : List Oper}, osOkB N l = true → ∀ o ∈ l, OOk N o
  | [], _, o, ho => by simp at ho
  | x :: r, h, o, ho => by
    obtain ⟨h1, h2⟩ := an_true (show an (oOkB N x) (osOkB N r) = true from h)
    simp only [List.mem_cons] at ho
    rcases ho with rfl | ho
    · intro d hd
      unfold oOkB at h1
      rw [hd] at h1
      exact Nat.blt_eq.mp h1
    · exact osOkB_spec h2 o ho
theorem cOkB_spec {N : Nat} : ∀ {c : Code}, cOkB N c = true → COk N c
  | .skip, _ => trivial
  | .region _ ops _, h => fun o ho => osOkB_spec (show osOkB N ops.toList = true from h) o ho
  | .seq a b, h => let ⟨h1, h2⟩ := an_true (show an (cOkB N a) (cOkB N b) = true from h); ⟨cOkB_spec h1, cOkB_spec h2⟩
  | .cond _ a b, h => let ⟨h1, h2⟩ := an_true (show an (cOkB N a) (cOkB N b) = true from h); ⟨cOkB_spec h1, cOkB_spec h2⟩
  | .block _ a, h => cOkB_spec (c := a) h
  | .loop a, h => cOkB_spec (c := a) h
  | .rangeFunc .., _ => trivial
  | .exit _, _ => trivial
  | .scope _, _ => trivial
  | .label _, _ => trivial
  | .goto _, _ => trivial
  | .ret, _ => trivial
  | .refuse _, _ => trivial
/-- A function's text is as it must be. -/
noncomputable def fOkB (fn : Func) : Bool := on fn.body true (cOkB fn.ntmps)
noncomputable def fsOkB (l : List Func) : Bool := @List.rec Func (fun _ => Bool) true (fun f _ ih => an (fOkB f) ih) l
theorem fsOkB_spec : ∀ {l : List Func}, fsOkB l = true → ∀ f ∈ l, ∀ c, f.body = some c → COk f.ntmps c
  | [], _, f, hf, _, _ => by simp at hf
  | x :: r, h, f, hf, c, hc => by
    obtain ⟨h1, h2⟩ := an_true (show an (fOkB x) (fsOkB r) = true from h)
    simp only [List.mem_cons] at hf
    rcases hf with rfl | hf
    · unfold fOkB at h1
      rw [hc] at h1
      exact cOkB_spec h1
    · exact fsOkB_spec h2 f hf c hc
end Go.RI
namespace Go.RI
open Go Go.RowKit
section
variable {P : Program} {T : Tb} {ρ : Env} {w0 w w' : World} {L : Loc} {s : St}
/-- Other blocks are new. -/
theorem Rel.grow (h : Rel ρ w0 L s w) (hb : Below w.heap.size w w') : Rel ρ w0 L s w' :=
  ⟨h.below.trans (hb.mono h.below.size), h.fresh, h.top, h.res, fun b o hbo => (h.obj b o hbo).keep L.le_refl (fun _ e => e) (fun x hx => hb.block _ ((h.obj b o hbo).lt hx).1), h.inj⟩
/-- It is laid: a block that was not there. -/
theorem Rel.layAt (h : Rel ρ w0 L s w) (hbw : Below w.heap.size w w') {b : Nat} {o : Ob} (hb : s.h.get b = some o) (hlt : b < s.nx) (hnr : ¬ ρ.res b) (hL : L b o.g = none) {B : Nat} (hB : w.heap.size ≤ B) (sz : Nat)
    (ho : RO ρ (L.put b o.g (B, 0, sz)) w0.heap.size w' b o) : Rel ρ w0 (L.put b o.g (B, 0, sz)) s w' := by
  have h' := h.grow hbw
  refine ⟨h'.below, fun b' g hb' => ?_, fun b' o' g hb' hg => ?_, fun b' hb' => ⟨(h.res b' hb').1, fun g => (Loc.put_ne (fun q => hnr (by rw [← q.1]; exact hb'))).trans ((h.res b' hb').2 g)⟩, fun b' o' hb' => ?_, fun b1 b2 o1 o2 x x' hne h1 h2 e1 e2 => ?_⟩
  · rw [Loc.put_ne (fun e => by omega)]; exact h.fresh b' g hb'
  · rw [Loc.put_ne (fun e => by
      obtain ⟨rfl, rfl⟩ := e
      rw [hb] at hb'
      injection hb' with hb'
      subst hb'
      omega)]
    exact h.top b' o' g hb' hg
  · by_cases e : b' = b
    · subst e
      rw [hb] at hb'
      injection hb' with hb'
      subst hb'
      exact ho
    · exact (h'.obj b' o' hb').keep (Loc.le_put hL _) (fun x hx => by rw [Loc.put_ne (fun hh => e hh.1)] at hx; exact hx) (fun x hx => rfl)
  · by_cases c1 : b1 = b
    · subst c1
      rw [hb] at h1
      injection h1 with h1
      subst h1
      rw [Loc.put_self] at e1
      injection e1 with e1
      rw [Loc.put_ne (fun hh => hne hh.1.symm)] at e2
      have := ((h.obj b2 o2 h2).lt e2).1
      rw [← e1]
      exact fun q => by simp only at q; omega
    · rw [Loc.put_ne (fun hh => c1 hh.1)] at e1
      by_cases c2 : b2 = b
      · subst c2
        rw [hb] at h2
        injection h2 with h2
        subst h2
        rw [Loc.put_self] at e2
        injection e2 with e2
        have := ((h.obj b1 o1 h1).lt e1).1
        rw [← e2]
        exact fun q => by simp only at q; omega
      · rw [Loc.put_ne (fun hh => c2 hh.1)] at e2
        exact h.inj b1 b2 o1 o2 x x' hne h1 h2 e1 e2
/-! a map's keys in order -/
noncomputable def insS (x : List Nat) : List (List Nat) → List (List Nat)
  | [] => [x]
  | y :: r => cd (lLt x y) (x :: y :: r) (y :: insS x r)
noncomputable def keysS : List Me → Option (List (List Nat))
  | [] => some []
  | e :: r => onStr e.k none fun x => cd (Nat.ble (len x) 1000000) (on (keysS r) none fun l => some (insS x l)) none
noncomputable def strs : List (List Nat) → List V
  | [] => []
  | x :: r => .str x :: strs r
noncomputable def allLt (x : List Nat) : List (List Nat) → Bool
  | [] => true
  | y :: r => an (lLt x y) (allLt x r)
noncomputable def srt : List (List Nat) → Bool
  | [] => true
  | x :: r => an (allLt x r) (srt r)
noncomputable def noB (b : Nat) : List Me → Bool
  | [] => true
  | e :: r => an (nt (Nat.beq b e.b)) (noB b r)
noncomputable def okM (c : Nat) : List Me → Bool
  | [] => true
  | e :: r => an (Nat.blt e.b c) (an (noB e.b r) (okM c r))
noncomputable def rvO (r : Rv) : Oc Rr := @Rv.rec (fun _ => Oc Rr) .no (fun v s => .one ⟨v, s⟩) r
noncomputable def sortK (t : TypeId) (ks : List (List Nat)) (s : St) : Oc Rr := ol ks (.one ⟨.sl none 0 0, s⟩) fun _ _ => cd (an (srt ks) (Nat.ble (len ks) 1000000)) (rvO (mk s t (strs ks) 0 fun b s => sN (len ks) fun n => .ok (.sg (.own b 0 0) n 1) s)) .no
noncomputable def sortM (T : Tb) (t : TypeId) (p : Pl) (s : St) : Oc Rr := on (rd1 T s p) .no fun mv => onMp mv .no fun r => on r (.one ⟨.sl none 0 0, s⟩) fun r => on (mapE s r) .no fun q => cd (okM q.2 q.1) (on (keysS q.1) .no fun ks => sortK t ks s) .no
theorem insS_perm (x : List Nat) : ∀ l : List (List Nat), (insS x l).Perm (x :: l)
  | [] => List.Perm.refl _
  | y :: r => by
    unfold insS
    cases lLt x y with
    | true => exact List.Perm.refl _
    | false => exact ((insS_perm x r).cons y).trans (List.Perm.swap x y r)
/-- A key's bytes. -/
def keyB : Value → List UInt8
  | .string sb => sb.data.toList
  | _ => []
theorem keysS_spec : ∀ {l : List Me} {ks : List (List Nat)} {es : List MapEntry}, keysS l = some ks → RMs ρ L l es → (∀ x ∈ es, ∃ sb : ByteArray, x.key = .string sb ∧ sb.size ≤ 1000000) ∧ ks.Perm (es.map fun x => (keyB x.key).map UInt8.toNat)
  | [], ks, _, h, .nil => by
    have h : some [] = some ks := h
    injection h with h
    subst h
    exact ⟨fun x hx => by simp at hx, List.Perm.refl _⟩
  | e :: l, ks, _, h, .cons (x := xe) (r := es) h1 h2 h3 h4 => by
    unfold keysS at h
    cases hk : e.k <;> rw [hk] at h <;> first | (cases h; done) | skip
    rename_i x
    have h : cd (Nat.ble (len x) 1000000) (on (keysS l) none fun l => some (insS x l)) none = some ks := h
    obtain ⟨h5, h⟩ := cd_some h
    obtain ⟨r, hr, h⟩ := on_some h
    injection h with h
    subst h
    obtain ⟨k1, k2⟩ := keysS_spec hr h4
    rw [hk] at h1
    generalize hxk : xe.key = y at h1
    cases h1 with
    | str sb =>
      rw [len_eq] at h5
      have h5 := Nat.le_of_ble_eq_true h5
      refine ⟨fun z hz => ?_, ?_⟩
      · simp only [List.mem_cons] at hz
        rcases hz with rfl | hz
        · exact ⟨sb, hxk, by simpa using h5⟩
        · exact k1 z hz
      · refine (insS_perm _ _).trans ?_
        rw [List.map_cons, hxk]
        exact k2.cons _
theorem lLt_not : ∀ {a b : List UInt8}, lLt (a.map UInt8.toNat) (b.map UInt8.toNat) = true → ¬ b < a
  | [], [], h => by cases h
  | [], y :: b, h => by intro q; cases q
  | x :: a, [], h => by cases h
  | x :: a, y :: b, h => by
    have h : cd (Nat.beq x.toNat y.toNat) (lLt (a.map UInt8.toNat) (b.map UInt8.toNat)) (Nat.blt x.toNat y.toNat) = true := h
    rw [List.cons_lt_cons_iff]
    rintro (q | ⟨q1, q2⟩)
    · have q := UInt8.lt_iff_toNat_lt.1 q
      cases hb : Nat.beq x.toNat y.toNat with
      | true =>
        have := beq_iff.1 hb
        omega
      | false =>
        rw [hb, cd_false] at h
        have := Nat.blt_eq.mp h
        omega
    · subst q1
      rw [Nat.beq_refl, cd_true] at h
      exact lLt_not h q2
theorem allLt_spec {x : List Nat} : ∀ {l : List (List Nat)}, allLt x l = true → ∀ y ∈ l, lLt x y = true
  | [], _, y, hy => by simp at hy
  | z :: r, h, y, hy => by
    obtain ⟨h1, h2⟩ := an_true (show an (lLt x z) (allLt x r) = true from h)
    simp only [List.mem_cons] at hy
    rcases hy with rfl | hy
    · exact h1
    · exact allLt_spec h2 y hy
theorem srt_spec : ∀ {l : List (List Nat)}, srt l = true → l.Pairwise fun a b => lLt a b = true
  | [], _ => List.Pairwise.nil
  | x :: r, h => by
    obtain ⟨h1, h2⟩ := an_true (show an (allLt x r) (srt r) = true from h)
    exact List.Pairwise.cons (allLt_spec h1) (srt_spec h2)
theorem lLt_irr : ∀ a : List Nat, lLt a a = false
  | [] => rfl
  | x :: r => by
    show cd (Nat.beq x x) (lLt r r) (Nat.blt x x) = false
    rw [Nat.beq_refl, cd_true]
    exact lLt_irr r
theorem noB_spec {b : Nat} : ∀ {l : List Me}, noB b l = true → ∀ e ∈ l, b ≠ e.b
  | [], _, e, he => by simp at he
  | x :: r, h, e, he => by
    obtain ⟨h1, h2⟩ := an_true (show an (nt (Nat.beq b x.b)) (noB b r) = true from h)
    simp only [List.mem_cons] at he
    rcases he with rfl | he
    · intro q
      rw [q, Nat.beq_refl] at h1
      cases h1
    · exact noB_spec h2 e he
theorem okM_spec {c : Nat} : ∀ {l : List Me} {es : List MapEntry}, okM c l = true → RMs ρ L l es → (∀ x ∈ es, x.born < c) ∧ (es.map (·.born)).Nodup ∧ ∀ b, b ∈ es.map (·.born) → ∃ e ∈ l, e.b = b
  | [], _, _, .nil => ⟨fun x hx => by simp at hx, by simp, fun b hb => by simp at hb⟩
  | e :: l, _, h, .cons (x := xe) (r := es) h1 h2 h3 h4 => by
    obtain ⟨g1, g2⟩ := an_true (show an (Nat.blt e.b c) (an (noB e.b l) (okM c l)) = true from h)
    obtain ⟨g2, g3⟩ := an_true g2
    obtain ⟨k1, k2, k3⟩ := okM_spec g3 h4
    have g1 := Nat.blt_eq.mp g1
    refine ⟨fun z hz => ?_, ?_, fun b hb => ?_⟩
    · simp only [List.mem_cons] at hz
      rcases hz with rfl | hz
      · omega
      · exact k1 z hz
    · rw [List.map_cons, List.nodup_cons]
      refine ⟨fun q => ?_, k2⟩
      obtain ⟨e', he', q'⟩ := k3 _ q
      exact noB_spec g2 e' he' (h3.trans q'.symm)
    · rw [List.map_cons] at hb
      simp only [List.mem_cons] at hb
      rcases hb with rfl | hb
      · exact ⟨e, by simp, h3⟩
      · obtain ⟨e', he', q'⟩ := k3 _ hb
        exact ⟨e', by simp [he'], q'⟩
/-- What is asked of the library: a map's keys in order. -/
def SortCon (P : Program) (f g : FuncId) (t : TypeId) : Prop :=
  (∀ (w : World) (B b : Nat) (es : Array MapEntry) (clk : Nat), B < w.heap.size → w.cell? ⟨B, 0, none⟩ = some (.map (some b)) → w.heap[b]? = some (.map es clk) → Go.MapKept.Stamped es clk → (∀ x ∈ es.toList, ∃ sb : ByteArray, x.key = .string sb ∧ sb.size ≤ 1000000) → es.size ≤ 1000000 →
    Calls P f #[.func (.func g) #[] #[.pointer (some ⟨B, 0, none⟩)]] w fun e w' => ∃ (v : Value) (ss : List (List UInt8)), e = .returned v ∧ ss.Perm (es.toList.map fun x => keyB x.key) ∧ w'.ownsRow w.heap.size t 1 v ss.length ((ss.mergeSort fun x y => decide (x ≤ y)).map Go.Proofs.encStr) ∧ (v = .slice none 0 0 ↔ ss = []) ∧ Below w.heap.size w w') ∧
  (∀ (w : World) (B : Nat), B < w.heap.size → w.cell? ⟨B, 0, none⟩ = some (.map none) →
    Calls P f #[.func (.func g) #[] #[.pointer (some ⟨B, 0, none⟩)]] w fun e w' => e = .returned (.slice none 0 0) ∧ Below w.heap.size w w')
theorem strs_get : ∀ (l : List (List Nat)) (i : Nat), (strs l)[i]? = (l[i]?).map V.str
  | [], i => by simp [strs]
  | x :: r, 0 => by simp [strs]
  | x :: r, i + 1 => by simpa [strs] using strs_get r i
theorem strs_len : ∀ (l : List (List Nat)), (strs l).length = l.length
  | [] => rfl
  | x :: r => by simp [strs, strs_len r]
end
end Go.RI
namespace Go.RI
open Go Go.RowKit
section
variable {P : Program} {T : Tb} {ρ : Env} {w0 w w' : World} {L : Loc} {s : St}
theorem mem_bytes {k : List Nat} {es : List MapEntry} (h : k ∈ es.map fun x => (keyB x.key).map UInt8.toNat) : (k.map UInt8.ofNat).map UInt8.toNat = k := by
  obtain ⟨x, -, rfl⟩ := List.mem_map.1 h
  simp
theorem call_of {f : FuncId} {fn : Func} {c : Code} {xs : Array Value} {K : Value → World → Prop} (hf : P.funcs[f]? = some fn) (hname : (fn.name == "runtime.NumGoroutine") = false) (hb : fn.body = some c) (h : Calls P f xs w fun e w' => ∃ x, e = .returned x ∧ K x w') : CallF P f xs w K :=
  .inl ⟨f, w, run_enter hf hname hb _ _, h⟩
theorem sortM_spec (hc : Ctx P T ρ w0) {f g : FuncId} {t : TypeId} (hcon : SortCon P f g t) {fn : Func} {c : Code} (hf : P.funcs[f]? = some fn) (hname : (fn.name == "runtime.NumGoroutine") = false) (hb : fn.body = some c)
    (h : Rel ρ w0 L s w) {b gg : Nat} {a : Addr} (ha : RA L (.own b gg 0) a) {K : Value → World → Prop} (e : (sortM T t (.own b gg 0) s).all (PostR P ρ w0 L K)) : CallF P f #[.func (.func g) #[] #[.pointer (some a)]] w K := by
  unfold sortM at e
  replace e := on_all e
  obtain ⟨mv, hmv, e⟩ := e
  have hrd : rd1 T s (.own b gg 0) = row s b gg 0 1 none fun c => c.get 0 := rfl
  rw [hrd] at hmv
  obtain ⟨tt, z, fz, cc, hob, hle, hget⟩ := row_some hmv
  cases ha with
  | own hL =>
    rename_i B base sz
    obtain ⟨hB0, hbase, C, fz', hBh, hCs, hsz, -, -, hcell⟩ := h.row hob hL
    subst hbase
    obtain ⟨mx, hmx, hmr⟩ := hcell 0 mv (by omega) hget
    have hBlt : B < w.heap.size := (Array.getElem?_eq_some_iff.1 hBh).1
    have hcl : w.cell? ⟨B, 0, none⟩ = some mx := cell_of hBh (by simpa using hmx)
    refine call_of hf hname hb ?_
    -- nothing is there
    have fin0 : ∀ {w' : World}, Below w.heap.size w w' → PostR P ρ w0 L K ⟨.sl none 0 0, s⟩ → K (.slice none 0 0) w' := fun hbw hp => hp L _ _ L.le_refl (h.grow hbw) .sl0
    cases mv with
    | mp r =>
      cases r with
      | none =>
        cases hmr
        exact (hcon.2 w B hBlt hcl).mono fun e' w' ⟨h1, h2⟩ => ⟨_, h1, fin0 h2 (show PostR P ρ w0 L K ⟨.sl none 0 0, s⟩ from e)⟩
      | some r =>
        replace e := on_all (show (on (mapE s r) .no fun q => cd (okM q.2 q.1) (on (keysS q.1) .no fun ks => sortK t ks s) .no).all _ from e)
        obtain ⟨q, hq, e⟩ := e
        replace e := cd_all e
        obtain ⟨hok, e⟩ := e
        replace e := on_all e
        obtain ⟨ks, hks, e⟩ := e
        cases hmr with
        | mp hLr =>
          rename_i R
          obtain ⟨k0, -, es, k2, k3⟩ := mapE_spec h hq hLr
          obtain ⟨g1, g2, -⟩ := okM_spec hok k3
          obtain ⟨g4, g5⟩ := keysS_spec hks k3
          have hlen : ks.length = es.size := by
            have := g5.length_eq
            simpa using this
          have hno : (ks = [] ∧ PostR P ρ w0 L K ⟨.sl none 0 0, s⟩) ∨ (ks ≠ [] ∧ srt ks = true ∧ ks.length ≤ 1000000 ∧ ∀ (L' : Loc) (x : Value) (w' : World), L.le L' → Rel ρ w0 L' ⟨s.h.put s.nx (.row t ks.length 0 0 (wrT (strs ks) 0 .lf)), s.nx + 1⟩ w' → RV ρ L' (.sg (.own s.nx 0 0) ks.length 1) x → K x w') := by
            cases ks with
            | nil => exact .inl ⟨rfl, e⟩
            | cons k0 kr =>
              have e : (cd (an (srt (k0 :: kr)) (Nat.ble (len (k0 :: kr)) 1000000)) (rvO (mk s t (strs (k0 :: kr)) 0 fun b s => sN (len (k0 :: kr)) fun n => .ok (.sg (.own b 0 0) n 1) s)) .no).all (PostR P ρ w0 L K) := e
              replace e := cd_all e
              obtain ⟨hs, e⟩ := e
              obtain ⟨hs, hl⟩ := an_true hs
              rw [mk_eq, sN_eq, len_eq, strs_len] at e
              rw [len_eq] at hl
              exact .inr ⟨by simp, hs, Nat.le_of_ble_eq_true hl, e⟩
          have hst : (ks = [] ∨ srt ks = true) ∧ ks.length ≤ 1000000 := by
            rcases hno with ⟨rfl, -⟩ | ⟨-, h1, h2, -⟩
            · exact ⟨.inl rfl, by simp⟩
            · exact ⟨.inr h1, h2⟩
          have hkey : (es.toList.map (·.key)).Nodup := by
            have hn : ks.Nodup := by
              rcases hst.1 with rfl | h1
              · exact List.nodup_nil
              · exact (srt_spec h1).imp fun {a b} hab q => by rw [q, lLt_irr] at hab; cases hab
            have hn2 := (g5.nodup_iff).1 hn
            have hn2 : ((es.toList.map (·.key)).map fun x => (keyB x).map UInt8.toNat).Nodup := by
              rw [List.map_map]
              exact hn2
            unfold List.Nodup at hn2 ⊢
            exact (List.pairwise_map.1 hn2).imp fun {a b} hab q => hab (by rw [q])
          refine ((hcon.1 w B R es q.2 hBlt hcl k2 ⟨g1, g2, hkey⟩ g4 (by omega))).mono fun e' w' ⟨v, ss, h1, h2, h3, h4, h5⟩ => ⟨v, h1, ?_⟩
          have hlen2 : ss.length = ks.length := by
            have := h2.length_eq
            rw [hlen, this]
            simp
          rcases hno with ⟨hk0, hp⟩ | ⟨hne, hs, hl, hp⟩
          · subst hk0
            have hss : ss = [] := List.eq_nil_of_length_eq_zero hlen2
            rw [h4.2 hss]
            exact fin0 h5 hp
          · rcases h3 with ⟨h3, h3' | ⟨gb, cap, cur, rfl, hbase, hgb, r1, r2, r3, r4⟩⟩
            · -- none: then there are no keys
              have hss : ss = [] := List.eq_nil_of_length_eq_zero h3'.2
              have hk0 : ks = [] := List.eq_nil_of_length_eq_zero (by rw [← hlen2, hss]; rfl)
              exact absurd hk0 hne
            · have hks8 : ss.mergeSort (fun x y => decide (x ≤ y)) = ks.map fun k => k.map UInt8.ofNat := by
                have hp8 : ss.Perm (ks.map fun k => k.map UInt8.ofNat) := by
                  refine h2.trans ?_
                  have := (g5.map fun k => k.map UInt8.ofNat).symm
                  rw [List.map_map] at this
                  have e9 : (es.toList.map fun x => keyB x.key) = es.toList.map ((fun k => k.map UInt8.ofNat) ∘ fun x => (keyB x.key).map UInt8.toNat) := by
                    apply List.map_congr_left
                    intro x _
                    show keyB x.key = ((keyB x.key).map UInt8.toNat).map UInt8.ofNat
                    rw [List.map_map, show (UInt8.ofNat ∘ UInt8.toNat) = id from funext fun u => UInt8.ofNat_toNat, List.map_id]
                  rw [e9]
                  exact this
                refine (mergeSort_of_perm hp8).trans ?_
                refine List.mergeSort_of_pairwise ?_
                rw [List.pairwise_map]
                refine (srt_spec hs).imp_of_mem fun {a b} ha hb hab => ?_
                have ha' := mem_bytes ((g5.mem_iff).1 ha)
                have hb' := mem_bytes ((g5.mem_iff).1 hb)
                rw [← ha', ← hb'] at hab
                have := lLt_not hab
                simp only [decide_eq_true_eq]
                exact List.not_lt.1 this
              have hmem : ∀ k ∈ ks, (k.map UInt8.ofNat).map UInt8.toNat = k := fun k hk => mem_bytes ((g5.mem_iff).1 hk)
              have hn0 : L s.nx 0 = none := h.fresh _ 0 (Nat.le_refl _)
              have hle := Loc.le_put hn0 (gb, 0, cap)
              have hrel := (h.more (.row t ks.length 0 0 (wrT (strs ks) 0 .lf))).layAt h5 (b := s.nx) (Tr.get_put_self _ _ _) (by simp) h.free hn0 hbase cap (by
                intro B' base' sz' e'
                replace e' : L.put s.nx 0 (gb, 0, cap) s.nx 0 = some (B', base', sz') := e'
                rw [Loc.put_self] at e'
                injection e' with e'
                injection e' with e1 e2
                injection e2 with e2 e3
                subst e1 e2 e3
                refine ⟨Nat.le_trans h.below.size hbase, rfl, cur, (0, 0), hgb, by simpa using r3, by omega, fun _ => rfl, fun q => (by cases q), fun i v hi hv => ?_⟩
                rw [wrT_get, if_pos (by rw [strs_len]; omega), Nat.sub_zero, strs_get] at hv
                obtain ⟨k, hk, rfl⟩ := Option.map_eq_some_iff.1 hv
                have hx : (cur.toList.take (ss.length * 1))[i]? = some (.string ⟨(k.map UInt8.ofNat).toArray⟩) := by
                  rw [r4, hks8, List.getElem?_map, List.getElem?_map, hk]
                  rfl
                rw [List.getElem?_take] at hx
                split at hx
                · refine ⟨_, by rw [Nat.zero_add]; simpa using hx, ?_⟩
                  have := RV.str (ρ := ρ) (L := L.put s.nx 0 (gb, 0, cap)) ⟨(k.map UInt8.ofNat).toArray⟩
                  rwa [show ((⟨(k.map UInt8.ofNat).toArray⟩ : ByteArray).data.toList.map UInt8.toNat) = (k.map UInt8.ofNat).map UInt8.toNat from rfl, hmem k (List.mem_of_getElem? hk)] at this
                · cases hx)
              refine hp _ _ _ hle hrel ?_
              have := RV.sg (ρ := ρ) (n := ks.length) (w := 1) (o := 0) (c := cap) (Loc.put_self L s.nx 0 (gb, 0, cap)) (by omega) (by omega)
              rw [hlen2]
              simpa using this
    | _ => exact e.elim
end
end Go.RI
namespace Go.RI
open Go Go.RowKit
section
variable {P : Program} {T : Tb} {ρ : Env} {w0 w w' : World} {L : Loc} {s : St}
noncomputable def findC (c : Nat) : List Nat → Nat → Int
  | [], _ => -1
  | x :: r, i => cd (Nat.beq x c) (.ofNat i) (findC c r (Nat.succ i))
noncomputable def idxN (l : List V) (s : St) : Option (Oc Rr) := match l with
  | [.str t, .int .u8 (.ofNat c)] => cd (Nat.blt c 256) (some (rvO (intR .i64 (findC c t 0) s))) none
  | _ => none
noncomputable def sortN (T : Tb) (t : TypeId) (ks : Nat → Bool) (l : List V) (s : St) : Option (Oc Rr) := match l with
  | [.fn (.func k) [] [.ptr (some (.own b g 0))]] => cd (ks k) (some (sortM T t (.own b g 0) s)) none
  | _ => none
/-- What is answered natively: keys in order (function f), the place of a byte (function g). -/
noncomputable def natv (T : Tb) (f g : FuncId) (t : TypeId) (ks : Nat → Bool) (h : FuncId) (l : List V) (s : St) : Option (Oc Rr) :=
  cd (Nat.beq h f) (sortN T t ks l s) (cd (Nat.beq h g) (idxN l s) none)
/-- What is asked of the library: the place of a byte. -/
def IdxCon (P : Program) (f : FuncId) : Prop := ∀ (sb : ByteArray) (c : Int) (w : World), (callFunc f #[.string sb, .int .u8 c]).run P w = .ok (.value (.int .i64 (Lib.indexByte sb.data.toList c.toNat.toUInt8))) w
theorem findC_spec {c : Nat} (hc : c < 256) : ∀ (l : List UInt8) (i : Nat), findC c (l.map UInt8.toNat) i = if Lib.indexByte l (UInt8.ofNat c) = -1 then -1 else (i : Int) + Lib.indexByte l (UInt8.ofNat c)
  | [], i => by simp [findC, Lib.indexByte]
  | x :: r, i => by
    have ih := findC_spec hc r (i + 1)
    have hge := Lib.indexByte_ge r (UInt8.ofNat c)
    rw [List.map_cons, findC, Lib.indexByte]
    by_cases h : x = UInt8.ofNat c
    · subst h
      have : (UInt8.ofNat c).toNat = c := by simp; omega
      rw [this, Nat.beq_refl, cd_true]
      simp
    · have h1 : (x == UInt8.ofNat c) = false := by simpa using h
      have h2 : Nat.beq x.toNat c = false := by
        cases hb : Nat.beq x.toNat c with
        | false => rfl
        | true =>
          have := beq_iff.1 hb
          exact absurd (by rw [← this]; simp) h
      rw [h1, h2, cd_false]
      simp only [Bool.false_eq_true, if_false, Nat.succ_eq_add_one]
      rw [ih]
      by_cases h3 : Lib.indexByte r (UInt8.ofNat c) = -1
      · simp [h3]
      · rw [if_neg h3]
        have h4 : (Lib.indexByte r (UInt8.ofNat c) == -1) = false := by simpa using h3
        rw [h4]
        simp only [Bool.false_eq_true, if_false]
        rw [if_neg (by omega)]
        push_cast
        omega
theorem natv_spec (hc : Ctx P T ρ w0) {f g : FuncId} {t : TypeId} {ks : Nat → Bool} (hs : ∀ k, ks k = true → SortCon P f k t) (hi : IdxCon P g) {fn : Func} {c : Code} (hf : P.funcs[f]? = some fn) (hname : (fn.name == "runtime.NumGoroutine") = false) (hb : fn.body = some c) : SpecN P ρ w0 (natv T f g t ks) := by
  intro h l s o L xs w K hrel hl hn e
  unfold natv at hn
  cases h1 : Nat.beq h f with
  | true =>
    have := beq_iff.1 h1
    subst this
    rw [h1, cd_true] at hn
    unfold sortN at hn
    split at hn
    · rename_i k b gg
      replace hn := cd_some hn
      obtain ⟨hk, hn⟩ := hn
      injection hn with hn
      subst hn
      cases hl with
      | cons hv hr =>
        cases hr
        cases hv with
        | fn h2 h3 =>
          cases h2
          cases h3 with
          | cons h4 h5 =>
            cases h5
            cases h4 with
            | ptr ha => exact sortM_spec hc (hs k hk) hf hname hb hrel ha e
    · cases hn
  | false =>
    rw [h1, cd_false] at hn
    replace hn := cd_some hn
    obtain ⟨h2, hn⟩ := hn
    have := beq_iff.1 h2
    subst this
    unfold idxN at hn
    split at hn
    · rename_i t c
      replace hn := cd_some hn
      obtain ⟨h3, hn⟩ := hn
      injection hn with hn
      subst hn
      have h3 := Nat.blt_eq.mp h3
      cases hl with
      | cons hv hr =>
        cases hr with
        | cons hv2 hr =>
          cases hr
          cases hv with
          | str sb =>
            cases hv2 with
            | int _ _ =>
              refine .inr ⟨_, w, hi sb _ w, ?_⟩
              have e : (rvO (sI (findC c (sb.data.toList.map UInt8.toNat) 0) fun n => .ok (.int .i64 n) s)).all _ := e
              rw [sI_eq, findC_spec h3] at e
              have hq : (if Lib.indexByte sb.data.toList (UInt8.ofNat c) = -1 then (-1 : Int) else ((0 : Nat) : Int) + Lib.indexByte sb.data.toList (UInt8.ofNat c)) = Lib.indexByte sb.data.toList (UInt8.ofNat c) := by
                split
                · rename_i q
                  exact q.symm
                · simp
              rw [hq] at e
              have e : PostR P ρ w0 L K ⟨.int .i64 (Lib.indexByte sb.data.toList (UInt8.ofNat c)), s⟩ := e
              exact e L _ w L.le_refl hrel (.int _ _)
    · cases hn
end
end Go.RI
namespace Go.RI
open Go Go.RowKit
/-- The shape of a tree of outcomes. -/
inductive Sh where
  | lf
  | nd (l r : Sh)
def Sh.paths : Sh → List (List Bool)
  | .lf => [[]]
  | .nd l r => l.paths.map (true :: ·) ++ r.paths.map (false :: ·)
/-- One way through a tree of outcomes: only that way is reckoned. -/
noncomputable def leafB {α : Type} (ok : α → Bool) : List Bool → Oc α → Bool
  | [], .one a => ok a
  | b :: p, .two x y => cd b (leafB ok p x) (leafB ok p y)
  | _, _ => false
theorem Sh.some_path : ∀ S : Sh, ∃ p, p ∈ S.paths
  | .lf => ⟨[], by simp [Sh.paths]⟩
  | .nd l r => by
    obtain ⟨p, hp⟩ := Sh.some_path l
    exact ⟨true :: p, by simp [Sh.paths, hp]⟩
theorem all_leaves {α : Type} : ∀ (S : Sh) (ok : List Bool → α → Bool) (o : Oc α), (∀ p ∈ S.paths, leafB (ok p) p o = true) → o.all fun a => ∃ p ∈ S.paths, ok p a = true
  | .lf, ok, o, h => by
    have h := h [] (by simp [Sh.paths])
    cases o with
    | no => cases h
    | one a => exact ⟨[], by simp [Sh.paths], h⟩
    | two x y => cases h
  | .nd l r, ok, o, h => by
    obtain ⟨p0, hp0⟩ := Sh.some_path l
    have h0 := h (true :: p0) (by simp [Sh.paths, hp0])
    cases o with
    | no => cases h0
    | one a => cases h0
    | two x y =>
      refine ⟨Oc.all_mono ?_ (all_leaves l (fun p => ok (true :: p)) x fun p hp => ?_), Oc.all_mono ?_ (all_leaves r (fun p => ok (false :: p)) y fun p hp => ?_)⟩
      · rintro a ⟨p, hp, ha⟩
        exact ⟨true :: p, by simp [Sh.paths, hp], ha⟩
      · exact h (true :: p) (by simp [Sh.paths, hp])
      · rintro a ⟨p, hp, ha⟩
        exact ⟨false :: p, by simp [Sh.paths, hp], ha⟩
      · exact h (false :: p) (by simp [Sh.paths, hp])
section
variable {ρ : Env} {w0 w : World} {L : Loc} {s s' : St}
/-- What isn't needed any more may be forgotten. -/
theorem Rel.forget (h : Rel ρ w0 L s w) (hn : s'.nx = s.nx) (hs : ∀ b o, s'.h.get b = some o → s.h.get b = some o) : Rel ρ w0 L s' w :=
  ⟨h.below, fun b g hb => h.fresh b g (by omega), fun b o g hb hg => h.top b o g (hs b o hb) hg, fun b hb => by rw [hn]; exact h.res b hb, fun b o hb => h.obj b o (hs b o hb),
    fun b b' o o' x x' hne h1 h2 h3 h4 => h.inj b b' o o' x x' hne (hs _ _ h1) (hs _ _ h2) h3 h4⟩
end
/-! ### A state, written out -/
noncomputable def optEq : Option V → Option V → Bool
  | some a, some b => V.beq a b
  | none, none => true
  | _, _ => false
theorem optEq_true : ∀ {a b : Option V}, optEq a b = true → a = b
  | some a, some b, h => congrArg some (V.beq_true h)
  | none, none, _ => rfl
  | some _, none, h => by cases h
  | none, some _, h => by cases h
noncomputable def Tr.beq (t : Tr V) : Tr V → Bool := @Tr.rec V (fun _ => Tr V → Bool) (fun u => @Tr.rec V (fun _ => Bool) true (fun _ _ _ _ _ => false) u)
  (fun _ v _ il ir u => @Tr.rec V (fun _ => Bool) false (fun l v' r _ _ => an (il l) (an (optEq v v') (ir r))) u) t
theorem Tr.beq_true : ∀ {t u : Tr V}, Tr.beq t u = true → t = u
  | .lf, .lf, _ => rfl
  | .lf, .nd _ _ _, h => by cases h
  | .nd _ _ _, .lf, h => by cases h
  | .nd l v r, .nd l' v' r', h => by
    obtain ⟨h1, h2⟩ := an_true (show an (Tr.beq l l') (an (optEq v v') (Tr.beq r r')) = true from h)
    obtain ⟨h3, h4⟩ := an_true h2
    rw [Tr.beq_true h1, Tr.beq_true h4, optEq_true h3]
noncomputable def mesEq : List Me → List Me → Bool
  | [], [] => true
  | a :: x, b :: y => an (V.beq a.k b.k) (an (V.beq a.v b.v) (an (Nat.beq a.b b.b) (mesEq x y)))
  | _, _ => false
theorem mesEq_true : ∀ {x y : List Me}, mesEq x y = true → x = y
  | [], [], _ => rfl
  | [], _ :: _, h => by cases h
  | _ :: _, [], h => by cases h
  | ⟨k, v, n⟩ :: x, ⟨k', v', n'⟩ :: y, h => by
    obtain ⟨h1, h⟩ := an_true (show an (V.beq k k') (an (V.beq v v') (an (Nat.beq n n') (mesEq x y))) = true from h)
    obtain ⟨h2, h⟩ := an_true h
    obtain ⟨h3, h⟩ := an_true h
    rw [V.beq_true h1, V.beq_true h2, beq_iff.1 h3, mesEq_true h]
noncomputable def Ob.beq : Ob → Ob → Bool
  | .row t n g z c, .row t' n' g' z' c' => an (Nat.beq t t') (an (Nat.beq n n') (an (Nat.beq g g') (an (Nat.beq z z') (Tr.beq c c'))))
  | .map l c, .map l' c' => an (Nat.beq c c') (mesEq l l')
  | _, _ => false
theorem Ob.beq_true {a b : Ob} (h : Ob.beq a b = true) : a = b := by
  cases a <;> cases b <;> first
    | cases h; done
    | skip
  · obtain ⟨h1, h⟩ := an_true h
    obtain ⟨h2, h⟩ := an_true h
    obtain ⟨h3, h⟩ := an_true h
    obtain ⟨h4, h⟩ := an_true h
    rw [beq_iff.1 h1, beq_iff.1 h2, beq_iff.1 h3, beq_iff.1 h4, Tr.beq_true h]
  · obtain ⟨h1, h⟩ := an_true h
    rw [beq_iff.1 h1, mesEq_true h]
/-- Each of these blocks stands in the state. -/
noncomputable def hasAll (s : St) (l : List (Nat × Ob)) : Bool := @List.rec (Nat × Ob) (fun _ => Bool) true (fun x _ ih => an (on (s.h.get x.1) false fun o => Ob.beq o x.2) ih) l
/-- The state that has these blocks and no others. -/
noncomputable def stOf (l : List (Nat × Ob)) (nx : Nat) : St := ⟨@List.rec (Nat × Ob) (fun _ => Tr Ob) .lf (fun x _ ih => ih.put x.1 x.2) l, nx⟩
theorem stOf_get {nx : Nat} : ∀ {l : List (Nat × Ob)} {b : Nat} {o : Ob}, (stOf l nx).h.get b = some o → (b, o) ∈ l
  | [], b, o, h => by cases h
  | x :: r, b, o, h => by
    have h : ((stOf r nx).h.put x.1 x.2).get b = some o := h
    rw [Tr.get_put] at h
    split at h
    · rename_i e
      injection h with h
      obtain ⟨x1, x2⟩ := x
      simp only at e h
      rw [e, h]
      exact List.mem_cons_self ..
    · exact List.mem_cons_of_mem _ (stOf_get h)
theorem hasAll_get {s : St} : ∀ {l : List (Nat × Ob)}, hasAll s l = true → ∀ b o, (b, o) ∈ l → s.h.get b = some o
  | [], _, b, o, hm => by simp at hm
  | x :: r, h, b, o, hm => by
    obtain ⟨h1, h2⟩ := an_true (show an (on (s.h.get x.1) false fun o => Ob.beq o x.2) (hasAll s r) = true from h)
    simp only [List.mem_cons] at hm
    rcases hm with rfl | hm
    · cases hx : s.h.get (b, o).1 with
      | none => rw [hx] at h1; cases h1
      | some o' =>
        rw [hx] at h1
        rw [← Ob.beq_true (show Ob.beq o' o = true from h1)]
    · exact hasAll_get h2 b o hm
/-- A run's state, as a state that is written out. -/
theorem Rel.lit {ρ : Env} {w0 w : World} {L : Loc} {s : St} {l : List (Nat × Ob)} {nx : Nat} (h : Rel ρ w0 L s w) (hh : hasAll s l = true) (hn : nx = s.nx) : Rel ρ w0 L (stOf l nx) w :=
  h.forget hn fun b o hb => hasAll_get hh b o (stOf_get hb)
end Go.RI
namespace Go.RI
open Go Go.RowKit
section
variable {P : Program} {ρ : Env} {w0 w : World}
/-- What is asked of one function that is answered natively. -/
def Spec1 (P : Program) (ρ : Env) (w0 : World) (f : FuncId) (n : List V → St → Option (Oc Rr)) : Prop :=
  ∀ (l : List V) (s : St) (o : Oc Rr) (L : Loc) (xs : List Value) (w : World) (K : Value → World → Prop), Rel ρ w0 L s w → RVs ρ L l xs → n l s = some o → o.all (PostR P ρ w0 L K) → CallF P f xs.toArray w K
/-- One more function that is answered natively. -/
noncomputable def natC (g : FuncId) (n : List V → St → Option (Oc Rr)) (r : FuncId → List V → St → Option (Oc Rr)) (h : FuncId) (l : List V) (s : St) : Option (Oc Rr) := cd (Nat.beq h g) (n l s) (r h l s)
theorem natC_spec {g : FuncId} {n : List V → St → Option (Oc Rr)} {r : FuncId → List V → St → Option (Oc Rr)} (hn : Spec1 P ρ w0 g n) (hr : SpecN P ρ w0 r) : SpecN P ρ w0 (natC g n r) := by
  intro h l s o L xs w K hrel hl e ho
  unfold natC at e
  cases h1 : Nat.beq h g with
  | true =>
    have := beq_iff.1 h1
    subst this
    rw [h1, cd_true] at e
    exact hn l s o L xs w K hrel hl e ho
  | false =>
    rw [h1, cd_false] at e
    exact hr h l s o L xs w K hrel hl e ho
noncomputable def sameN (l : List V) (s : St) : Option (Oc Rr) := match l with
  | [v] => some (.one ⟨v, s⟩)
  | _ => none
theorem sameN_spec {g : FuncId} (hc : ∀ x w, (callFunc g #[x]).run P w = .ok (.value x) w) : Spec1 P ρ w0 g sameN := by
  intro l s o L xs w K hrel hl e ho
  unfold sameN at e
  split at e
  · injection e with e
    subst e
    cases hl with
    | cons hv hr =>
      cases hr
      exact .inr ⟨_, w, hc _ w, ho L _ w L.le_refl hrel hv⟩
  · cases e
noncomputable def addN (l : List V) (s : St) : Option (Oc Rr) := match l with
  | [.int .u64 (.ofNat a), .int .u64 (.ofNat b), .int .u64 (.ofNat c)] => cd (Nat.ble c 1) (some (sN (Nat.mod (Nat.add (Nat.add a b) c) 18446744073709551616) fun p => sN (Nat.div (Nat.add (Nat.add a b) c) 18446744073709551616) fun q => .one ⟨.tup [.int .u64 (.ofNat p), .int .u64 (.ofNat q)], s⟩)) none
  | _ => none
theorem addN_spec {g : FuncId} (hc : ∀ (x y c : Int) w, 0 ≤ x → 0 ≤ y → 0 ≤ c → c ≤ 1 → (callFunc g #[.int .u64 x, .int .u64 y, .int .u64 c]).run P w = .ok (.value (.tuple #[.int .u64 ((x + y + c) % 18446744073709551616), .int .u64 ((x + y + c) / 18446744073709551616)])) w) : Spec1 P ρ w0 g addN := by
  intro l s o L xs w K hrel hl e ho
  unfold addN at e
  split at e
  · rename_i a b c
    replace e := cd_some e
    obtain ⟨h1, e⟩ := e
    have h1 := Nat.le_of_ble_eq_true h1
    injection e with e
    rw [sN_eq, sN_eq] at e
    subst e
    cases hl with
    | cons hv hr =>
      cases hr with
      | cons hv2 hr =>
        cases hr with
        | cons hv3 hr =>
          cases hr
          cases hv
          cases hv2
          cases hv3
          refine .inr ⟨_, w, hc _ _ _ w (Int.natCast_nonneg _) (Int.natCast_nonneg _) (Int.natCast_nonneg _) (Int.ofNat_le.2 h1), ho L _ w L.le_refl hrel ?_⟩
          exact .tup (.cons (.int _ _) (.cons (.int _ _) .nil))
  · cases e
noncomputable def cmpN : List Nat → List Nat → Int
  | [], [] => 0
  | [], _ :: _ => -1
  | _ :: _, [] => 1
  | x :: a, y :: b => cd (Nat.ble (Nat.succ x) y) (-1) (cd (Nat.ble (Nat.succ y) x) 1 (cmpN a b))
theorem cmpN_eq : ∀ (a b : List UInt8), cmpN (a.map UInt8.toNat) (b.map UInt8.toNat) = Lib.compareBytes a b
  | [], [] => rfl
  | [], _ :: _ => rfl
  | _ :: _, [] => rfl
  | x :: a, y :: b => by
    rw [List.map_cons, List.map_cons, cmpN, Lib.compareBytes, cmpN_eq a b]
    by_cases h1 : x < y
    · rw [if_pos h1, Nat.ble_eq_true_of_le (show x.toNat + 1 ≤ y.toNat from h1), cd_true]
    · rw [if_neg h1]
      have h2 : Nat.ble (Nat.succ x.toNat) y.toNat = false := by
        cases hb : Nat.ble (Nat.succ x.toNat) y.toNat with
        | false => rfl
        | true => exact absurd (show x < y from Nat.le_of_ble_eq_true hb) h1
      rw [h2, cd_false]
      by_cases h3 : y < x
      · rw [if_pos h3, Nat.ble_eq_true_of_le (show y.toNat + 1 ≤ x.toNat from h3), cd_true]
      · rw [if_neg h3]
        have h4 : Nat.ble (Nat.succ y.toNat) x.toNat = false := by
          cases hb : Nat.ble (Nat.succ y.toNat) x.toNat with
          | false => rfl
          | true => exact absurd (show y < x from Nat.le_of_ble_eq_true hb) h3
        rw [h4, cd_false]
noncomputable def cmpsN (l : List V) (s : St) : Option (Oc Rr) := match l with
  | [.str a, .str b] => some (sI (cmpN a b) fun n => .one ⟨.int .i64 n, s⟩)
  | _ => none
theorem cmpsN_spec {g : FuncId} (hc : ∀ (a b : ByteArray) w, (callFunc g #[.string a, .string b]).run P w = .ok (.value (.int .i64 (Lib.compareBytes a.data.toList b.data.toList))) w) : Spec1 P ρ w0 g cmpsN := by
  intro l s o L xs w K hrel hl e ho
  unfold cmpsN at e
  split at e
  · injection e with e
    rw [sI_eq] at e
    subst e
    cases hl with
    | cons hv hr =>
      cases hr with
      | cons hv2 hr =>
        cases hr
        cases hv with
        | str sa =>
          cases hv2 with
          | str sb =>
            refine .inr ⟨_, w, hc _ _ w, ho L _ w L.le_refl hrel ?_⟩
            rw [cmpN_eq]
            exact .int _ _
  · cases e
noncomputable def countN (c : Nat) : List Nat → Nat
  | [] => 0
  | x :: r => cd (Nat.beq x c) (Nat.succ (countN c r)) (countN c r)
noncomputable def cntN (l : List V) (s : St) : Option (Oc Rr) := match l with
  | [.str a, .int .u8 (.ofNat c)] => cd (Nat.ble c 255) (some (sN (countN c a) fun n => .one ⟨.int .i64 (.ofNat n), s⟩)) none
  | _ => none
theorem countN_eq {c : Nat} (hc : c ≤ 255) : ∀ a : List UInt8, countN c (a.map UInt8.toNat) = a.count (UInt8.ofNat c)
  | [] => rfl
  | x :: r => by
    rw [List.map_cons, countN, countN_eq hc r, List.count_cons]
    by_cases h : x = UInt8.ofNat c
    · subst h
      have : (UInt8.ofNat c).toNat = c := by simp; omega
      rw [this, Nat.beq_refl, cd_true]
      simp
    · have h2 : Nat.beq x.toNat c = false := by
        cases hb : Nat.beq x.toNat c with
        | false => rfl
        | true =>
          have := beq_iff.1 hb
          exact absurd (by rw [← this]; simp) h
      rw [h2, cd_false]
      simp [h]
theorem cntN_spec {g : FuncId} (hc : ∀ (a : ByteArray) (c : Int) w, (callFunc g #[.string a, .int .u8 c]).run P w = .ok (.value (.int .i64 (Lib.countByte a.data.toList c.toNat.toUInt8))) w) : Spec1 P ρ w0 g cntN := by
  intro l s o L xs w K hrel hl e ho
  unfold cntN at e
  split at e
  · rename_i a c
    replace e := cd_some e
    obtain ⟨h1, e⟩ := e
    have h1 := Nat.le_of_ble_eq_true h1
    injection e with e
    rw [sN_eq] at e
    subst e
    cases hl with
    | cons hv hr =>
      cases hr with
      | cons hv2 hr =>
        cases hr
        cases hv with
        | str sa =>
          cases hv2
          refine .inr ⟨_, w, hc _ _ w, ho L _ w L.le_refl hrel ?_⟩
          rw [countN_eq h1]
          exact .int _ _
  · cases e
end
end Go.RI
namespace Go.RI
open Go Go.RowKit
section
variable {P : Program} {ρ : Env} {w0 w : World}
/-- A new row of bytes of which nothing is known. -/
noncomputable def mkzN (t : TypeId) (l : List V) (s : St) : Option (Oc Rr) := match l with
  | [.int .i64 (.ofNat n)] => cd (Nat.ble n 281474976710656) (some (s.h.set s.nx (.row t n 0 1 .lf) fun h => sN (Nat.succ s.nx) fun x => .one ⟨.sg (.own s.nx 0 0) n 1, ⟨h, x⟩⟩)) none
  | _ => none
theorem mkzN_spec {g : FuncId} {t : TypeId} (hc : ∀ (n : Nat) (w : World), n ≤ 281474976710656 → ∃ (cs : Array Value) (w' : World), (callFunc g #[.int .i64 n]).run P w = .ok (.value (.slice (some ⟨w.heap.size, 0, none⟩) n cs.size)) w' ∧ w'.heap[w.heap.size]? = some (.cells cs t (0, 0)) ∧ Below w.heap.size w w' ∧ n ≤ cs.size) : Spec1 P ρ w0 g (mkzN t) := by
  intro l s o L xs w K h hl e ho
  unfold mkzN at e
  split at e
  · rename_i n
    replace e := cd_some e
    obtain ⟨h1, e⟩ := e
    have h1 := Nat.le_of_ble_eq_true h1
    injection e with e
    rw [Tr.set_put, sN_eq] at e
    subst e
    cases hl with
    | cons hv hr =>
      cases hr
      cases hv
      obtain ⟨cs, w', g1, g2, g3, g4⟩ := hc n w h1
      have hn0 : L s.nx 0 = none := h.fresh _ 0 (Nat.le_refl _)
      have hle := Loc.le_put hn0 (w.heap.size, 0, cs.size)
      have hrel := (h.more (.row t n 0 1 .lf)).layAt g3 (b := s.nx) (Tr.get_put_self _ _ _) (by simp) h.free hn0 (Nat.le_refl _) cs.size (by
        intro B' base' sz' e'
        replace e' : L.put s.nx 0 (w.heap.size, 0, cs.size) s.nx 0 = some (B', base', sz') := e'
        rw [Loc.put_self] at e'
        injection e' with e'
        injection e' with e1 e2
        injection e2 with e2 e3
        subst e1 e2 e3
        refine ⟨h.below.size, rfl, cs, (0, 0), g2, rfl, by omega, fun _ => rfl, fun _ => .inr rfl, fun i v hi hv => ?_⟩
        cases hv)
      refine .inr ⟨_, w', g1, ho _ _ w' hle hrel ?_⟩
      have := RV.sg (ρ := ρ) (n := n) (w := 1) (o := 0) (c := cs.size) (Loc.put_self L s.nx 0 (w.heap.size, 0, cs.size)) g4 (by omega)
      simpa using this
  · cases e
end
end Go.RI
