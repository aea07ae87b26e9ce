/-
  Functions that defer calls. No condition.
-/
import Derived.Test.YtnlepoplncjliaaGreatDoorKL
import Derived.Defers
namespace Go.Proofs.YtnlepoplncjliaaGreatDoor
open Go.RowKit

section
variable {P : Program} {ops : Array Oper} {Q : Exit → Act → World → Prop} {rest : List Oper} {o : Oper} {n : Nat} {F : List (Nat × Value)} {w : World}
/-- A deferred call of a function by its name. -/
def dcallF (g : FuncId) (args : List Value) : Deferred := { target := .fn (.func g) #[], args := args.toArray }
theorem Seq.defer_ {g : FuncId} {args : Array Operand} {ts : Array TypeId} {vs : List Value} (ho : o.op = .defer { callee := .value (.func g), args := args, argTypes := ts }) (hx : evL (evF F) args.toList = some vs) (hg : o.guard = none) (hd : o.dst = none)
    (h : ∀ I : Inhabited (List Deferred), I.default = [dcallF g vs] → @Seq I P ops Q rest n F w) : Seq P ops Q (o :: rest) n F w := by
  intro a ha
  refine wpList_plain hg fun K hK => ?_
  have hargs : args.map a.eval = vs.toArray := by
    apply Array.ext'
    rw [Array.toList_map, evL_map ha.ev hx]
  have hr : (execOp a.eval o).run P w = .ok (.defer (dcallF g vs)) w := by
    unfold execOp
    have hf : a.eval (.func g) = .func (.func g) #[] #[] := rfl
    simp only [ho, resolve, hf, Deferred.ofValue, hargs, Sem.run_bind, Sem.run_pure, Result.andThen_ok]
    simp [dcallF]
  unfold Oper.wp
  rw [hr, Oper.upon_defer, hd]
  have hD : dcallF g vs :: a.defers = [dcallF g vs] := by rw [ha.defers]; rfl
  exact hK _ _ (h ⟨[dcallF g vs]⟩ rfl _ (@Fr.mk ⟨[dcallF g vs]⟩ n F _ ha.size hD ha.slot))
theorem Calls.startD {f : FuncId} {fn : Func} {c : Code} {args : List Value} {R : Ending → World → Prop} (n : Nat) (hf : P.funcs[f]? = some fn) (hb : fn.body = some c) (hn : fn.ntmps = n) (hle : Nat.ble args.length n = true)
    (h : Cd P c (bodyPostD P fn R) n (startF 0 args) w) : Calls P f args.toArray w R := by
  have hle' := Nat.le_of_ble_eq_true hle
  refine calls_of_wp_defers hf hb (h _ ⟨?_, rfl, fun t v ht => ?_⟩)
  · show (args.toArray ++ Array.replicate (fn.ntmps - args.toArray.size) undef).size = n
    simp; omega
  · obtain ⟨j, rfl, hj⟩ := look_startF args 0 t v ht
    have hlt : j < args.length := (List.getElem?_eq_some_iff.1 hj).1
    show (args.toArray ++ Array.replicate (fn.ntmps - args.toArray.size) undef)[0 + j]? = some v
    rw [Nat.zero_add, Array.getElem?_append_left (by simpa using hlt)]
    simpa using hj
/-- The same body, called when another function leaves. -/
theorem CallsD.start {f : FuncId} {fn : Func} {c : Code} {args : List Value} {u : FrameMode} {R : Ending → World → Prop} (n : Nat) (hf : P.funcs[f]? = some fn) (hb : fn.body = some c) (hn : fn.ntmps = n) (hle : Nat.ble args.length n = true)
    (h : Cd P c (bodyPost P fn R) n (startF 0 args) w) : CallsD P f args.toArray u w fun e u' w' => u' = u ∧ R e w' := by
  have hle' := Nat.le_of_ble_eq_true hle
  refine callsD_of_wp hf hb (h _ ⟨?_, rfl, fun t v ht => ?_⟩)
  · show (args.toArray ++ Array.replicate (fn.ntmps - args.toArray.size) undef).size = n
    simp; omega
  · obtain ⟨j, rfl, hj⟩ := look_startF args 0 t v ht
    have hlt : j < args.length := (List.getElem?_eq_some_iff.1 hj).1
    show (args.toArray ++ Array.replicate (fn.ntmps - args.toArray.size) undef)[0 + j]? = some v
    rw [Nat.zero_add, Array.getElem?_append_left (by simpa using hlt)]
    simpa using hj
/-- An end without deferred calls. -/
theorem Post.endD0 {fn : Func} {R : Ending → World → Prop} {e : Exit} (hr : fn.results = #[]) (he : e = .ret ∨ e = .normal) (h : R (.returned (.tuple #[])) w) : Post (bodyPostD P fn R) e n F w := by
  intro a ha
  have hv := results_none hr a.tmps P w
  have hd : a.defers = [] := ha.defers
  rcases he with rfl | rfl
  · show Leaves P fn a.tmps R a.defers .returning w
    rw [hd]
    exact ⟨_, hv, h⟩
  · show Leaves P fn a.tmps R a.defers .returning w
    rw [hd]
    exact ⟨_, hv, h⟩
/-- An end with one. -/
theorem Post.endD1 {fn : Func} {R : Ending → World → Prop} {R1 : Ending → World → Prop} {e : Exit} {g : FuncId} {vs : List Value} {I : Inhabited (List Deferred)} (hI : I.default = [dcallF g vs]) (hr : fn.results = #[]) (he : e = .ret ∨ e = .normal) (hen : ∀ args w, (callFunc g args).run P w = .ok (.enter g args) w)
    (hc : CallsD P g vs.toArray .returning w fun e u' w' => u' = .returning ∧ R1 e w') (hR : ∀ e w', R1 e w' → (∃ v, e = .returned v) ∧ R (.returned (.tuple #[])) w') : @Post I (bodyPostD P fn R) e n F w := by
  intro a ha
  have hd : a.defers = [dcallF g vs] := ha.defers.trans hI
  have hL : Leaves P fn a.tmps R a.defers .returning w := by
    rw [hd]
    refine leaves_cons (by simp) (f := g) (args := vs.toArray) (by simp [invoke, hen]) (hc.mono fun e u' w' ⟨hu, h1⟩ => ?_)
    obtain ⟨⟨v, rfl⟩, h2⟩ := hR e w' h1
    subst hu
    exact ⟨_, results_none hr a.tmps P w', h2⟩
  rcases he with rfl | rfl
  · exact hL
  · exact hL
end
end Go.Proofs.YtnlepoplncjliaaGreatDoor
