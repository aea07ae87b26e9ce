/-
  Texts that were joined: EqK, KM, KN, WodA, WoF, EnE, EnR, EnF, EnH, EnI, EnJ, EnS, EnT, EnK, EnU, KS, EnV. Conditions: what each theorem names.
-/
import Derived.Test.YtenikchlnfhikaaGreatDoorY0
import Derived.Test.YtenikchlnfhikaaGreatDoorY1
import Derived.Test.YtenikchlnfhikaaGreatDoorY5
import Derived.Test.YtenikchlnfhikaaGreatDoorY8
import Derived.Test.YtenikchlnfhikaaGreatDoorY10
import Derived.Test.YtenikchlnfhikaaGreatDoorY11
import Derived.Test.YtenikchlnfhikaaGreatDoorY13
import Derived.Test.YtenikchlnfhikaaGreatDoorY15
import Derived.LaidMore
import Derived.Lib.LaidTab
import Derived.Shelf.Vars
set_option linter.unusedSectionVars false
set_option linter.unusedVariables false
set_option linter.unusedSimpArgs false
namespace Go.Proofs.YtenikchlnfhikaaGreatDoor
open Go.ChangeShapes Go.WideShapes Go.ChangeAt Go.Deep Go.RowKit

theorem laid_tail {P : Program} {W : World} {x : String × DataW Unit} {rest : List (String × DataW Unit)} (h : laidMet P (x :: rest) W) : laidMet P rest W := by
  obtain ⟨ps, ⟨g, t, cs, fuel, p, q, h1, h2, h3, h4, h5, rfl⟩, hn, hi⟩ := h
  exact ⟨q, h5, (List.nodup_append.1 hn).2.1, fun b off hm => hi b off (List.mem_append_right _ hm)⟩
theorem iface_of_trod {P : Program} {w : World} {base fuel : Nat} {sp : Nat → Bool} {enc : TypeId × Value → Unit} {t : TypeId} {ms : Array String} {cs : List Value} {name : String} {d : DataW Unit} {p : List MemPlace} (ht : ∃ x, P.underlying t = some (.interface x)) (h : DataW.trod enc P w base sp false fuel t cs = some (.iface name d, p)) : ∃ u v, cs = [.iface u v] := by
  obtain ⟨x, ht⟩ := ht
  cases fuel with
  | zero => simp [DataW.trod] at h
  | succ n =>
    unfold DataW.trod at h
    rw [ht] at h
    split at h <;> simp_all
theorem gv_of_laid {W : World} (h : laidMetH Tryz.prog laidL W) (hs : W.ShapedOpen Tryz.prog) : Nb W := by
  rw [MakeChecks.laidMetH_plain _ _ _ (by kernel_rfl)] at h
  have h0 := h
  have h5 := laid_tail (laid_tail (laid_tail (laid_tail (laid_tail (show laidMet Tryz.prog (_ :: _ :: _ :: _ :: _ :: _) W from h)))))
  have tn : Lib.TabIs Tryz.prog W "debenture/crc.nibbles" .u32 (crcT.map Int.ofNat) := Lib.tabIs_of_head (rest := _) (g := 1) (by kernel_rfl) (by kernel_rfl) Tryz.underlying730 Tryz.underlying395 (by kernel_rfl) (by kernel_rfl) h5
  refine ⟨?_, fun i hi => ?_⟩
  · obtain ⟨ps, ⟨g', t', cs, fuel, p, q, hg', ht', hvar, hd, _, _⟩, _⟩ := (show laidMet Tryz.prog (("strconv.ErrSyntax", Rows.laid_strconv_ErrSyntax) :: _) W from h0)
    have hg : Tryz.prog.globalNamed "strconv.ErrSyntax" = some 2 := by kernel_rfl
    have hty : (Tryz.prog.globals[2]?).map (·.type) = some 269 := by kernel_rfl
    obtain rfl := Option.some.inj (hg.symm.trans hg')
    obtain rfl := Option.some.inj (hty.symm.trans ht')
    obtain ⟨u, v, hcs⟩ := iface_of_trod (ms := #[]) ⟨_, Tryz.underlying269⟩ (show DataW.trod _ _ _ _ _ _ _ _ _ = some (.iface _ _, p) from hd)
    refine ⟨.iface u v, ?_, rfl⟩
    have := World.var?_cell hg hvar 0
    rw [this]
    have : cs = #[.iface u v] := by rw [← hcs]
    rw [this]
    rfl
  · rw [tn.cell (g := 1) (by kernel_rfl) i (by rw [List.length_map]; exact hi)]
    congr 2
    have : ∀ i, i < 16 → (crcT.map Int.ofNat).getD i 0 = ((crcT.getD i 0 : Nat) : Int) := by decide
    exact this i hi
theorem has64Q {n : Int} (h : (Lit.int .i64 n).wf = true) : I64 n := by
  simp only [Lit.wf, Bool.and_eq_true, decide_eq_true_eq] at h
  exact ⟨h.1, h.2⟩
set_option maxRecDepth 100000 in
set_option maxHeartbeats 4000000 in
theorem open_ask26 {H : Type} {enc : TypeId × Value → H} {W : World} {base : Nat} {v : Value} {d : DataW H} {p : List MemPlace} (hv : Value.okWide Tryz.prog W .any base 23 v)
    (h : DataW.Trod enc Tryz.prog W 0 (fun _ => true) true 23 v d p) : ∃ a : As, v = a.v ∧ a.byt := by
  obtain ⟨cs, rfl, hsz⟩ := okWide_struct Tryz.underlying23 hv
  have hC : Tryz.prog.cellsOf 23 = 10 := by kernel_rfl
  have ci : Tryz.prog.cellsOf 3 = 1 := by kernel_rfl
  have cs' : Tryz.prog.cellsOf 9 = 1 := by kernel_rfl
  have cl : Tryz.prog.cellsOf 2 = 1 := by kernel_rfl
  obtain ⟨l⟩ := cs
  have hsz := hsz.trans hC
  match l, hsz with
  | [c0, c1, c2, c3, c4, c5, c6, c7, c8, c9], _ =>
    obtain ⟨fuel, hf⟩ := h
    obtain ⟨xs, n, -, -, -, hlen, hfj⟩ := DataW.trod_struct Tryz.underlying23 hf
    match xs, hlen with
    | [y0, y1, y2, y3, y4, y5, y6, y7, y8, y9], _ =>
      have t0 := hfj 0 _ rfl
      have t1 := hfj 1 _ rfl
      have t2 := hfj 2 _ rfl
      have t3 := hfj 3 _ rfl
      have t4 := hfj 4 _ rfl
      have t5 := hfj 5 _ rfl
      have t6 := hfj 6 _ rfl
      have t7 := hfj 7 _ rfl
      have t8 := hfj 8 _ rfl
      have t9 := hfj 9 _ rfl
      simp [Value.cells, ci, cs', cl] at t0 t1 t2 t3 t4 t5 t6 t7 t8 t9
      obtain ⟨x0, e0, -, w0⟩ := DataW.trod_int Tryz.underlying3 t0
      obtain ⟨x1, e1, -⟩ := DataW.trod_string Tryz.underlying9 t1
      obtain ⟨x2, e2, -⟩ := DataW.trod_string Tryz.underlying9 t2
      obtain ⟨x3, e3, -⟩ := DataW.trod_string Tryz.underlying9 t3
      obtain ⟨x4, e4, -⟩ := DataW.trod_string Tryz.underlying9 t4
      obtain ⟨x5, e5, -⟩ := DataW.trod_string Tryz.underlying9 t5
      obtain ⟨x6, e6, -, w6⟩ := DataW.trod_int Tryz.underlying3 t6
      obtain ⟨x7, e7, -, w7⟩ := DataW.trod_int Tryz.underlying3 t7
      obtain ⟨x8, e8, -, w8⟩ := DataW.trod_int Tryz.underlying3 t8
      obtain ⟨x9, e9, -, w9⟩ := DataW.trod_int Tryz.underlying2 t9
      simp at e0 e1 e2 e3 e4 e5 e6 e7 e8 e9
      subst e0 e1 e2 e3 e4 e5 e6 e7 e8 e9
      exact ⟨⟨x0, bytesOf x1, bytesOf x2, bytesOf x3, bytesOf x4, bytesOf x5, x6, x7, x8, x9⟩, by simp only [As.v, As.cs, strOf_bytesOf], ⟨bytesOf_lt _, bytesOf_lt _, bytesOf_lt _, bytesOf_lt _, bytesOf_lt _, has64Q w0, has64Q w6, has64Q w7, has64Q w8, has64Q w9⟩⟩
/-- The wrap for rows that list variables, with what the world's shape says handed on. -/
theorem lift_laid {H : Type} {enc : TypeId × Value → H} {a : Assume} {C : Checked} {os : Os} {f : FuncId} {fn : Func} {s : ChangeSpec} {X : World → Array Value → Prop} {apart fresh handsOn again : Bool}
    (hX : ∀ (w w' : World) (args : Array Value), w.heap = w'.heap → X w args → X w' args) (own : ownKnob C.prog.godebug = none) (started : os.Started) (hi : C.prog.inits.idxOf? f = none) (hfn : C.prog.funcs[f]? = some fn)
    (wit : ∃ (w : World) (tape : Tape) (i : Input), w.os = os ∧ (w.forCall tape i).Shaped C.prog ∧ i.vars = [] ∧ Input.okWide C.prog (w.forCall tape i) .any w.heap.size f i ∧
      ((s.pre enc C.prog fn [] apart (w.forCall tape i).memory i.args ∧ X (w.forCall tape i).memory i.args) ∧ sizedMet enc C.prog fn (OpenSpec.ofChange s) apart (w.forCall tape i).memory i.args) ∧ a.holds C.prog (lone (Frame.enter C.prog f i.args .normal) [] (w.forCall tape i)))
    (walk : ∀ (W : World) (base : Nat) (args : Array Value) (ds gs : List (DataW H)) (before : List MemPlace), (∀ (j : Nat) t v, fn.params[j]? = some t → args[j]? = some v → Value.okWide C.prog W .any base t v) →
      DataW.Whole enc C.prog fn.params.toList s.vars apart W args.toList ds gs before → X W args → W.ShapedOpen C.prog →
      Calls C.prog f args W fun e W' => ∃ v, e = .returned v ∧ s.post enc C.prog fn apart fresh handsOn again W args v W') :
    ReturnsInHanded a C os f .any (fun w args => (s.pre enc C.prog fn [] apart w args ∧ X w args) ∧ sizedMet enc C.prog fn (OpenSpec.ofChange s) apart w args) (s.post enc C.prog fn apart fresh handsOn again) := by
  refine returnsInHanded_of_calls own started hi wit fun w tape i _ hsh _ hok hp _ => ?_
  obtain ⟨⟨⟨ds, gs, before, hw, -⟩, hx⟩, -⟩ := hp
  obtain ⟨_, _, _, fn', hfn', _, _, _, _, hval⟩ := hok
  obtain rfl : fn' = fn := Option.some.inj (hfn'.symm.trans hfn)
  refine (walk _ _ _ ds gs before hval (DataW.Whole.of_heap (by rfl) hw) (hX _ _ _ (by rfl) hx) hsh).mono fun e W' he => ?_
  obtain ⟨v, rfl, hp⟩ := he
  exact ChangeSpec.post_blind hp
theorem own : ownKnob Tryz.prog.godebug = none := by kernel_rfl
theorem doorV (os : Os) (args : Array Value) : ((doorL os).forCall (fun _ _ => 0) ⟨#[], args, []⟩).variablesRefB Tryz.prog = true := by kernel_rfl
theorem doorH (os : Os) (args : Array Value) : (((doorL os).forCall (fun _ _ => 0) ⟨#[], args, []⟩).heap.toList.drop Tryz.prog.globals.size).take ((begin Tryz.prog (fun _ _ => 0) default).world.heap.size - Tryz.prog.globals.size) = (begin Tryz.prog (fun _ _ => 0) default).world.heap.toList.drop Tryz.prog.globals.size := by kernel_rfl
theorem doorS (os : Os) (args : Array Value) : ((doorL os).forCall (fun _ _ => 0) ⟨#[], args, []⟩).Shaped Tryz.prog := World.shaped_of_RefB (doorV os args) (doorH os args)
theorem mainIs_ : Tryz.prog.mainIs = some (true, "1ce0cc3bba0e40533cc3edafa8a4ca401495f6ef636b0550eb557ef9769d0302".toList) := by kernel_rfl
theorem looks_ : true = Tryz.prog.looks [] := by kernel_rfl
theorem stops_ : (Tryz.prog.stops == []) = true := by kernel_rfl
theorem knobs_ : (Tryz.prog.stopKnobs == []) = true := by kernel_rfl
end Go.Proofs.YtenikchlnfhikaaGreatDoor

namespace Go.Proofs.YtenikchlnfhikaaGreatDoor
open Go.RowKit

section
variable {P : Program} {ops : Array Oper} {Q : Exit → Act → World → Prop} {rest : List Oper} {o : Oper} {n : Nat} {F : List (Nat × Value)} {w : World}
/-- A deferred call of a function by its name. -/
def dcallF (g : FuncId) (args : List Value) : Deferred := { target := .fn (.func g) #[], args := args.toArray }
/-- The same body, called when another function leaves. -/
theorem CallsD.start {f : FuncId} {fn : Func} {c : Code} {args : List Value} {u : FrameMode} {R : Ending → World → Prop} (n : Nat) (hf : P.funcs[f]? = some fn) (hb : fn.body = some c) (hn : fn.ntmps = n) (hle : Nat.ble args.length n = true)
    (h : Cd P c (bodyPost P fn R) n (startF 0 args) w) : CallsD P f args.toArray u w fun e u' w' => u' = u ∧ R e w' := by
  have hle' := Nat.le_of_ble_eq_true hle
  refine callsD_of_wp hf hb (h _ ⟨?_, rfl, fun t v ht => ?_⟩)
  · show (args.toArray ++ Array.replicate (fn.ntmps - args.toArray.size) undef).size = n
    simp; omega
  · obtain ⟨j, rfl, hj⟩ := look_startF args 0 t v ht
    have hlt : j < args.length := (List.getElem?_eq_some_iff.1 hj).1
    show (args.toArray ++ Array.replicate (fn.ntmps - args.toArray.size) undef)[0 + j]? = some v
    rw [Nat.zero_add, Array.getElem?_append_left (by simpa using hlt)]
    simpa using hj
end
end Go.Proofs.YtenikchlnfhikaaGreatDoor

namespace Go.Proofs.YtenikchlnfhikaaGreatDoor
open Go.RowKit

section
variable {P : Program} {Q : Exit → Act → World → Prop} {n : Nat} {F F' : List (Nat × Value)} {w : World}
def JoinD (n : Nat) (F : List (Nat × Value)) (J : Inhabited (List Deferred) → World → Prop) (a : Act) (w : World) : Prop := ∃ I, @Fr I n F a ∧ J I w
end
end Go.Proofs.YtenikchlnfhikaaGreatDoor

namespace Go.Proofs.YtenikchlnfhikaaGreatDoor
open Go.RowKit

theorem Runs.nilCheck {P : Program} {E : Operand → Option Value} {o : Oper} {w : World} {x : Operand} {ad : Addr} (ho : o.op = .nilCheck x) (hx : E x = some (.pointer (some ad))) : Runs P E o w (.pointer (some ad)) w := fun ρ h => by
  unfold execOp; simp only [ho]; rw [h _ _ hx]; rfl
theorem zero_uint8 : zeroIs Tryz.prog 5 = some (some (.int .u8 0)) := by kernel_rfl
/-- What a Writer's methods leave as it was. -/
structure Wf (B : Nat) (w w' : World) : Prop where
  below : Below (min B w.heap.size) w w'
  keep : ∀ k t cs, Blk w k t cs → t ≠ 223 → t ≠ 5 → Blk w' k t cs
section
variable {B : Nat} {w w' w'' : World}
theorem Wf.refl (B : Nat) (w : World) : Wf B w w := ⟨Below.refl _ _, fun _ _ _ h _ _ => h⟩
theorem Wf.trans (h : Wf B w w') (k : Wf B w' w'') : Wf B w w'' := ⟨h.below.trans (k.below.mono (by have := h.below.size; omega)), fun i t cs hb h1 h2 => k.keep i t cs (h.keep i t cs hb h1 h2) h1 h2⟩
theorem Wf.grow (h : Below w.heap.size w w') : Wf B w w' := ⟨h.mono (Nat.min_le_right _ _), fun _ _ _ hb _ _ => hb.step h⟩
theorem Wf.step (h : Wf B w w') (k : Below w'.heap.size w' w'') : Wf B w w'' := h.trans (Wf.grow k)
theorem Wf.wf (h : Wf B w w') (k : Wf B w' w'') : Wf B w w'' := h.trans k
theorem Wf.to (h : Wf B w w') (hB : B ≤ w.heap.size) : Below B w w' := by have := h.below; rwa [Nat.min_eq_left hB] at this
theorem Wf.put0 {g B' : Nat} {T : TypeId} {cur cs : Array Value} (h : Wf B w w') (k : Blk w' g T cur) (p : Put w' w'' g T cs) (e : B' ≤ g) (hB : B ≤ g) (hT : T = 223 ∨ T = 5) : Wf B w w'' :=
  h.trans ⟨(p.below hB k.lt).mono (Nat.min_le_left _ _), fun i t cs hb h1 h2 => hb.put p (hb.ne k (by rcases hT with rfl | rfl <;> assumption))⟩
theorem Wf.put {g : Nat} {T : TypeId} {cur cs : Array Value} (h : Wf B w w') (k : Blk w' g T cur) (p : Put w' w'' g T cs) (e : w.heap.size ≤ g) : Wf B w w'' :=
  ⟨h.below.trans (p.below (by omega) k.lt), fun i t cs hb h1 h2 => (h.keep i t cs hb h1 h2).put p (by have := hb.lt; omega)⟩
end
theorem Blk.wf {B : Nat} {w w' : World} {k : Nat} {t : TypeId} {cs : Array Value} (h : Blk w k t cs) (f : Wf B w w') (h1 : t ≠ 223 := by decide) (h2 : t ≠ 5 := by decide) : Blk w' k t cs := f.keep k t cs h h1 h2
theorem Reads.wf {B B2 size n : Nat} {w w' : World} {A : Option Addr} {xs : List Value} (h : Reads w B2 size A n xs) (f : Wf B w w') (hB : B2 ≤ B) (hs : B2 ≤ w.heap.size) : Reads w' B2 size A n xs := h.below (f.below.mono (by omega))
/-- A Writer, and what it has laid. -/
structure Wr (w : World) (B g : Nat) (bs : List Nat) : Prop where
  ge : B ≤ g
  bytes : ∀ d ∈ bs, d < 256
  cell : ∃ v, Blk w g 223 #[v] ∧ Own w B 5 1 v bs.length (Bt bs)
theorem Wr.size {w : World} {B g : Nat} {bs : List Nat} (h : Wr w B g bs) : B ≤ w.heap.size := by
  obtain ⟨v, hb, -⟩ := h.cell
  have := hb.lt
  have := h.ge
  omega
theorem Wr.step {w w' : World} {B g : Nat} {bs : List Nat} (h : Wr w B g bs) (k : Below w.heap.size w w') : Wr w' B g bs := by
  obtain ⟨v, hb, ho⟩ := h.cell
  exact ⟨h.ge, h.bytes, v, hb.step k, ho.step k⟩
theorem Wr.put {w w' : World} {B B' g g' : Nat} {bs : List Nat} {T : TypeId} {cur cs : Array Value} (h : Wr w B g bs) (k : Blk w g' T cur) (p : Put w w' g' T cs) (_e : B' ≤ g') (h1 : 223 ≠ T := by decide) (h2 : 5 ≠ T := by decide) : Wr w' B g bs := by
  obtain ⟨v, hb, ho⟩ := h.cell
  exact ⟨h.ge, h.bytes, v, hb.put p (hb.ne k h1), ho.put k p _e h2⟩
theorem App.wf {w w' : World} {B n : Nat} {v : Value} {xs : List Value} (h : App w w' B v) (o : Own w B 5 1 v n xs) : Wf B w w' :=
  ⟨h.below.mono (Nat.min_le_left _ _), fun i t cs hb _ h2 => hb.grown h.grown (fun e => own_blk_ne o.row hb (fun e => h2 e.symm) e.symm)⟩
theorem put_any (B g B2 m c : Nat) (A : Option Addr) (bs new : List Nat) (w : World) (h : Wr w B g bs) (hr : Reads w B2 1 A m (Bt new)) (hn : ∀ d ∈ new, d < 256) (hl : bs.length + new.length ≤ 1000000000) :
    Calls Tryz.prog 342 #[.pointer (some ⟨g, 0, none⟩), .slice A m c] w fun e w' => e = .returned (.pointer (some ⟨g, 0, none⟩)) ∧ Wf B w w' ∧ Wr w' B g (bs ++ new) := by
  obtain ⟨v, k0, own⟩ := h.cell
  have hB := h.size
  have hge := h.ge
  have hm : new.length = m := by have := hr.1; rw [length_Bt] at this; omega
  refine Calls.start 17 Tryz.func342 rfl rfl rfl ?_
  refine Cd.seq ?_
  refine Cd.region ?_
  refine Seq.val (Runs.assign rfl rfl) rfl rfl rfl ?_
  refine Seq.nil ?_
  refine Post.weak (F' := [(0, _), (1, _), (4, _)]) ⟨rfl, rfl, rfl, trivial⟩ ?_
  refine Post.then_ ?_
  refine Cd.seq ?_
  refine Cd.seq ?_
  refine Cd.region ?_
  refine Seq.val (Runs.move rfl rfl) rfl rfl rfl ?_
  refine Seq.val (Runs.neqP rfl rfl rfl Tryz.underlying220) rfl rfl rfl ?_
  refine Seq.nil ?_
  refine Post.weak (F' := [(0, _), (1, _), (4, _), (6, _)]) ⟨rfl, rfl, rfl, rfl, trivial⟩ ?_
  refine Post.then_ ?_
  refine Cd.condT rfl rfl ?_
  refine Cd.region ?_
  refine Seq.val (Runs.move rfl rfl) rfl rfl rfl ?_
  refine Seq.val (Runs.move rfl rfl) rfl rfl rfl ?_
  refine Seq.val (Runs.nilCheck rfl rfl) rfl rfl rfl ?_
  refine Seq.val (Runs.fieldB 0 rfl rfl Tryz.underlying223 rfl (by kernel_rfl)) rfl rfl rfl ?_
  refine Seq.val (Runs.loadB rfl rfl Tryz.underlying221 rfl k0 rfl) rfl rfl rfl ?_
  refine Seq.val (Runs.move rfl rfl) rfl rfl rfl ?_
  refine Seq.append rfl rfl rfl Tryz.underlying221 (by kernel_rfl) zero_uint8 rfl (by decide) (b := 1) (by kernel_rfl) own hr (by intro u hu; obtain ⟨d, -, rfl⟩ := List.mem_map.1 hu; rfl) hB (by simp only [maxLen]; omega) (by omega) rfl rfl rfl ?_
  intro v1 w1 own1 ha
  have k1 := k0.grown ha.grown (fun e => own_blk_ne own.row k0 (by decide) e.symm)
  have f1 := ha.wf own
  clear k0
  have k0 := k1
  obtain ⟨A1, c1, rfl, -⟩ := own1.reads
  have e0 : B ≤ g := hge
  have wf : Wf B w w1 := f1
  refine Seq.val (Runs.nilCheck rfl rfl) rfl rfl rfl ?_
  refine Seq.val (Runs.fieldB 0 rfl rfl Tryz.underlying223 rfl (by kernel_rfl)) rfl rfl rfl ?_
  refine Seq.store1 rfl rfl rfl (by kernel_rfl) rfl rfl k0 rfl rfl rfl ?_
  intro w1 pw1
  replace k0 := pw1.blk
  refine Seq.nil ?_
  refine Post.weak (F' := [(0, _), (1, _), (4, _), (6, _)]) ⟨rfl, rfl, rfl, rfl, trivial⟩ ?_
  refine Post.then_ ?_
  refine Cd.seq ?_
  refine Cd.region ?_
  refine Seq.val (Runs.move rfl rfl) rfl rfl rfl ?_
  refine Seq.val (Runs.assign rfl rfl) rfl rfl rfl ?_
  refine Seq.nil ?_
  refine Post.weak (F' := [(0, _), (1, _), (4, _), (6, _)]) ⟨rfl, rfl, rfl, rfl, trivial⟩ ?_
  refine Post.then_ ?_
  refine Cd.ret ?_
  have own2 := own1.put k1 pw1 hge
  have f2 := wf.put0 k1 pw1 hge hge (.inl rfl)
  refine Post.end1 rfl rfl (.inl rfl) ?_
  refine ⟨rfl, f2, hge, fun d hd => ?_, _, k0, ?_⟩
  · rcases List.mem_append.1 hd with hd | hd
    · exact h.bytes d hd
    · exact hn d hd
  · rw [Bt_append, List.length_append, hm]
    exact own2
theorem wrap8 (m : Nat) : IntKind.u8.wrap (m : Int) = ((m % 256 : Nat) : Int) := by rw [IntKind.wrap_u8]; omega
theorem Runs.convU {P : Program} {E : Operand → Option Value} {o : Oper} {w : World} {x : Operand} {T T' : TypeId} {p : Int} {r : Nat} (ho : o.op = .convert T T' x) (hx : E x = some (.int .i64 p)) (hS : P.underlying T = some (.int .i64)) (hT : P.underlying T' = some (.int .u64)) (hr : p % 18446744073709551616 = (r : Int)) : Runs P E o w (.int .u64 (r : Int)) w :=
  .convI ho hx hS hT (by rw [IntKind.wrap_u64, hr])
theorem raw_any (B g : Nat) (s bs : List Nat) (w : World) (h : Wr w B g bs) (hs : ∀ d ∈ s, d < 256) (hl : bs.length + s.length ≤ 1000000000) :
    Calls Tryz.prog 214 #[.pointer (some ⟨g, 0, none⟩), .string (strOf s)] w fun e w' => e = .returned (.pointer (some ⟨g, 0, none⟩)) ∧ Wf B w w' ∧ Wr w' B g (bs ++ s) := by
  have wf := Wf.refl B w
  have wr := h
  refine Calls.start 9 Tryz.func214 rfl rfl rfl ?_
  refine Cd.seq ?_
  refine Cd.region ?_
  refine Seq.val (Runs.assign rfl rfl) rfl rfl rfl ?_
  refine Seq.nil ?_
  refine Post.weak (F' := [(0, _), (1, _), (4, _)]) ⟨rfl, rfl, rfl, trivial⟩ ?_
  refine Post.then_ ?_
  refine Cd.seq ?_
  refine Cd.region ?_
  refine Seq.val (Runs.move rfl rfl) rfl rfl rfl ?_
  refine Seq.val (Runs.move rfl rfl) rfl rfl rfl ?_
  refine Seq.convSB rfl rfl Tryz.underlying9 Tryz.underlying221 Tryz.underlying5 hs rfl rfl rfl ?_
  intro g7 c7 w1 hc7 n7
  replace wf := wf.step n7.below
  replace wr := wr.step n7.below
  have hrd := n7.reads
  refine Seq.call (Enters.func rfl rfl rfl (run_enter Tryz.func342 (by kernel_rfl) rfl)) rfl rfl rfl (put_any B g _ _ c7 _ _ s _ wr hrd hs hl) ?_
  clear wr
  rintro e w1 ⟨rfl, fw1, wr⟩
  refine ⟨_, rfl, ?_⟩
  replace wf := wf.wf fw1
  refine Seq.val (Runs.assign rfl rfl) rfl rfl rfl ?_
  refine Seq.nil ?_
  refine Post.weak (F' := [(0, _), (1, _), (4, _)]) ⟨rfl, rfl, rfl, trivial⟩ ?_
  refine Post.then_ ?_
  refine Cd.ret ?_
  refine Post.end1 rfl rfl (.inl rfl) ?_
  exact ⟨rfl, wf, wr⟩
theorem wbytes_any (B g : Nat) (bs : List Nat) (w : World) (h : Wr w B g bs) :
    Calls Tryz.prog 116 #[.pointer (some ⟨g, 0, none⟩)] w fun e w' => e = .returned (.string (strOf bs)) ∧ Grow w w' := by
  have bel := Below.refl w.heap.size w
  obtain ⟨v, k0, own⟩ := h.cell
  obtain ⟨A, c, rfl, hr⟩ := own.reads
  refine Calls.start 10 Tryz.func116 rfl rfl rfl ?_
  refine Cd.seq ?_
  refine Cd.region ?_
  refine Seq.val (Runs.assign rfl rfl) rfl rfl rfl ?_
  refine Seq.nil ?_
  refine Post.weak (F' := [(0, _), (2, _)]) ⟨rfl, rfl, trivial⟩ ?_
  refine Post.then_ ?_
  refine Cd.seq ?_
  refine Cd.seq ?_
  refine Cd.region ?_
  refine Seq.val (Runs.move rfl rfl) rfl rfl rfl ?_
  refine Seq.val (Runs.eqlP rfl rfl rfl Tryz.underlying220) rfl rfl rfl ?_
  refine Seq.nil ?_
  refine Post.weak (F' := [(0, _), (2, _), (4, _)]) ⟨rfl, rfl, rfl, trivial⟩ ?_
  refine Post.then_ ?_
  refine Cd.condF rfl rfl ?_
  refine Cd.skip ?_
  refine Post.then_ ?_
  refine Cd.seq ?_
  refine Cd.region ?_
  refine Seq.val (Runs.move rfl rfl) rfl rfl rfl ?_
  refine Seq.val (Runs.nilCheck rfl rfl) rfl rfl rfl ?_
  refine Seq.val (Runs.fieldB 0 rfl rfl Tryz.underlying223 rfl (by kernel_rfl)) rfl rfl rfl ?_
  refine Seq.val (Runs.loadB rfl rfl Tryz.underlying221 rfl k0 rfl) rfl rfl rfl ?_
  refine Seq.val (Runs.convBS rfl rfl Tryz.underlying221 Tryz.underlying5 Tryz.underlying9 hr h.bytes) rfl rfl rfl ?_
  refine Seq.val (Runs.assign rfl rfl) rfl rfl rfl ?_
  refine Seq.nil ?_
  refine Post.weak (F' := [(0, _), (2, _), (4, _)]) ⟨rfl, rfl, rfl, trivial⟩ ?_
  refine Post.then_ ?_
  refine Cd.ret ?_
  refine Post.end1 rfl rfl (.inl rfl) ?_
  exact ⟨rfl, bel⟩
def Byt (s : List Nat) : Prop := ∀ d ∈ s, d < 256
theorem Byt.drop {s : List Nat} (h : Byt s) (k : Nat) : Byt (s.drop k) := fun d hd => h d (List.mem_of_mem_drop hd)
theorem Byt.take {s : List Nat} (h : Byt s) (k : Nat) : Byt (s.take k) := fun d hd => h d (List.mem_of_mem_take hd)
theorem Byt.tail {c : Nat} {s : List Nat} (h : Byt (c :: s)) : Byt s := fun d hd => h d (List.mem_cons_of_mem _ hd)
theorem Byt.right {a s : List Nat} (h : Byt (a ++ s)) : Byt s := fun d hd => h d (List.mem_append_right _ hd)
theorem Byt.left {a s : List Nat} (h : Byt (a ++ s)) : Byt a := fun d hd => h d (List.mem_append_left _ hd)
theorem Byt.app {a s : List Nat} (h : Byt a) (k : Byt s) : Byt (a ++ s) := fun d hd => by
  rcases List.mem_append.1 hd with hd | hd
  · exact h d hd
  · exact k d hd
def rawP (n : Int) (s : List Nat) : Option (List Nat × List Nat) := if 0 ≤ n ∧ n ≤ (s.length : Int) then some (s.take n.toNat, s.drop n.toNat) else none
/-- What a Reader's methods leave as it was: all but its block. -/
structure Kf (g : Nat) (w w' : World) : Prop where
  only : w.grownBy w' (some g)
section
variable {g : Nat} {w w' w'' : World}
theorem Kf.refl (g : Nat) (w : World) : Kf g w w := ⟨only_of_below (Below.refl _ _) _⟩
theorem Kf.trans (h : Kf g w w') (k : Kf g w' w'') : Kf g w w'' := ⟨only_trans h.only k.only⟩
theorem Kf.step (h : Kf g w w') (k : Below w'.heap.size w' w'') : Kf g w w'' := ⟨only_below h.only k⟩
theorem Kf.size (h : Kf g w w') : w.heap.size ≤ w'.heap.size := h.only.size
theorem Kf.put {g' : Nat} {T : TypeId} {cur cs : Array Value} (h : Kf g w w') (_k : Blk w' g' T cur) (p : Put w' w'' g' T cs) (e : w.heap.size ≤ g') : Kf g w w'' :=
  ⟨p.grown.os.trans h.only.os, p.grown.tape.trans h.only.tape, p.grown.output.trans h.only.output, by have := p.size; have := h.size; omega, fun k hk hne => (p.grown.block k (by have := h.size; omega) (fun e' => by injection e' with e'; omega)).trans (h.only.block k hk hne)⟩
theorem Kf.own {T : TypeId} {cs : Array Value} (h : Kf g w w') (p : Put w' w'' g T cs) : Kf g w w'' := h.trans ⟨p.grown⟩
theorem Kf.to {B : Nat} (h : Kf g w w') (hB : B ≤ g) (hg : g < w.heap.size) : Below B w w' := only_to_below h.only hB hg
end
/-- A Reader, and what is left of its bytes; none: it is a bad one. -/
def Rd (T : TypeId) (w : World) (g : Nat) (o : Option (List Nat)) : Prop := ∃ s b, Blk w g T #[.string (strOf s), .bool b] ∧ Byt s ∧ o = if b = true then none else some s
section
variable {T : TypeId} {w w' w'' : World} {g : Nat} {o : Option (List Nat)}
theorem Rd.step (h : Rd T w g o) (k : Below w.heap.size w w') : Rd T w' g o := by
  obtain ⟨s, b, h1, h2, h3⟩ := h
  exact ⟨s, b, h1.step k, h2, h3⟩
theorem Rd.put {g' B : Nat} {T' : TypeId} {cur cs : Array Value} (h : Rd T w g o) (k : Blk w g' T' cur) (p : Put w w' g' T' cs) (_e : B ≤ g') (hne : T ≠ T' := by decide) : Rd T w' g o := by
  obtain ⟨s, b, h1, h2, h3⟩ := h
  exact ⟨s, b, h1.put p (h1.ne k hne), h2, h3⟩
theorem Rd.lt (h : Rd T w g o) : g < w.heap.size := by
  obtain ⟨s, b, h1, -⟩ := h
  exact h1.lt
theorem Kf.kf (h : Kf g w w') (f : Kf g w' w'') (_rd : Rd T w' g o) : Kf g w w'' := h.trans f
theorem Blk.kf {k : Nat} {t : TypeId} {cs : Array Value} (h : Blk w k t cs) (f : Kf g w w') (rd : Rd T w g o) (hne : t ≠ T := by decide) : Blk w' k t cs := by
  obtain ⟨s, b, h1, -⟩ := rd
  exact h.grown f.only (fun e => h.ne h1 hne (by injection e))
theorem Own.kf {B size n : Nat} {e : TypeId} {v : Value} {xs : List Value} (h : Own w B e size v n xs) (f : Kf g w w') (rd : Rd T w g o) (hne : e ≠ T := by decide) : Own w' B e size v n xs := by
  obtain ⟨s, b, h1, -⟩ := rd
  exact ⟨h.row.kept f.only (own_ne_blk h.row h1 hne)⟩
theorem Rd.bad {s : List Nat} (k : Blk w g T #[.string (strOf s), .bool true]) (hs : Byt s) : Rd T w g none := ⟨s, true, k, hs, rfl⟩
theorem Rd.good {s : List Nat} (k : Blk w g T #[.string (strOf s), .bool false]) (hs : Byt s) : Rd T w g (some s) := ⟨s, false, k, hs, rfl⟩
end
/-- What is left behind. -/
def rest {α : Type} (p : List Nat → Option (α × List Nat)) (o : Option (List Nat)) : Option (List Nat) := (o.bind p).map Prod.snd
def val1 {α : Type} (p : List Nat → Option (α × List Nat)) (o : Option (List Nat)) (z : α) : Prop := ∀ a r, o.bind p = some (a, r) → z = a
def rawV (n : Int) (o : Option (List Nat)) : List Nat := ((o.bind (rawP n)).map Prod.fst).getD []
end Go.Proofs.YtenikchlnfhikaaGreatDoor

namespace Go.Proofs.YtenikchlnfhikaaGreatDoor
open Go.RowKit

theorem int_at {a b : Int} (h : a = b) : some (Value.int .i64 a) = some (Value.int .i64 b) := by rw [h]

/-- A number as bytes, the highest first. -/
def beB : Nat → Nat → List Nat
  | 0, _ => []
  | k + 1, n => (n / 256 ^ k % 256) :: beB k n
theorem beB_lt (k n : Nat) : ∀ d ∈ beB k n, d < 256 := by induction k with
  | zero => simp [beB]
  | succ k ih =>
    intro d hd
    rcases List.mem_cons.1 hd with rfl | hd
    · exact Nat.mod_lt _ (by omega)
    · exact ih d hd
theorem fixed_any (B g n k : Nat) (bs : List Nat) (w : World) (h : Wr w B g bs) (hn : n < 18446744073709551616) (hk : k ≤ 8) (hl : bs.length + 8 ≤ 1000000000) :
    Calls Tryz.prog 392 #[.pointer (some ⟨g, 0, none⟩), .int .u64 (n : Int), .int .i64 (k : Int)] w fun e w' => e = .returned (.pointer (some ⟨g, 0, none⟩)) ∧ Wf B w w' ∧ Wr w' B g (bs ++ beB k n) := by
  have wf := Wf.refl B w
  refine Calls.start 23 Tryz.func392 rfl rfl rfl ?_
  refine Cd.seq ?_
  refine Cd.region ?_
  refine Seq.val (Runs.assign rfl rfl) rfl rfl rfl ?_
  refine Seq.nil ?_
  refine Post.weak (F' := [(0, _), (1, _), (2, _), (6, _)]) ⟨rfl, rfl, rfl, rfl, trivial⟩ ?_
  refine Post.then_ ?_
  refine Cd.seq ?_
  refine Cd.seq ?_
  refine Cd.region ?_
  refine Seq.val (Runs.move rfl rfl) rfl rfl rfl ?_
  refine Seq.val (Runs.subI rfl rfl rfl (by omega) (by omega)) rfl rfl rfl ?_
  refine Seq.val (Runs.assign rfl rfl) rfl rfl rfl ?_
  refine Seq.nil ?_
  refine Post.weak (F' := [(0, _), (1, _), (2, _), (6, _), (7, _)]) ⟨rfl, rfl, rfl, rfl, rfl, trivial⟩ ?_
  refine Post.then_ ?_
  refine Cd.block ?_
  refine Cd.loop (σ := List Nat × Nat) (fun s => [(0, .pointer (some ⟨g, 0, none⟩)), (1, .int .u64 (n : Int)), (7, .int .i64 ((s.2 : Int) - 1))])
    (fun s wr => s.1.length + s.2 = k ∧ s.1 ++ beB s.2 n = beB k n ∧ Wf B w wr ∧ Wr wr B g (bs ++ s.1)) (fun s => s.2) ([], k) ⟨by simp, rfl, wf, by rw [List.append_nil]; exact h⟩ ⟨rfl, rfl, rfl, trivial⟩ ?_
  clear wf
  rintro ⟨done, j⟩ wr0 ⟨hd, he, wf, wr⟩
  simp only at hd he wr
  show Cd _ _ _ _ [(0, .pointer (some ⟨g, 0, none⟩)), (1, .int .u64 (n : Int)), (7, .int .i64 ((j : Int) - 1))] _
  refine Cd.seq ?_
  refine Cd.seq ?_
  refine Cd.region ?_
  refine Seq.val (Runs.move rfl rfl) rfl rfl rfl ?_
  refine Seq.val (Runs.geq rfl rfl rfl) rfl rfl rfl ?_
  refine Seq.nil ?_
  refine Post.weak (F' := [(0, _), (1, _), (7, _), (11, _)]) ⟨rfl, rfl, rfl, rfl, trivial⟩ ?_
  refine Post.then_ ?_
  refine Cd.condD rfl (fun hc => ?_) (fun hc => ?_)
  · obtain ⟨i, rfl⟩ : ∃ i, j = i + 1 := ⟨j - 1, by omega⟩
    have hi : (((i + 1 : Nat) : Int)) - 1 = (i : Int) := by omega
    rw [hi]
    refine Cd.skip ?_
    refine Post.then_ ?_
    refine Cd.seq ?_
    refine Cd.block ?_
    refine Cd.region ?_
    refine Seq.val (Runs.move rfl rfl) rfl rfl rfl ?_
    refine Seq.val (Runs.move rfl rfl) rfl rfl rfl ?_
    refine Seq.val (Runs.move rfl rfl) rfl rfl rfl ?_
    refine Seq.val ((Runs.mulI rfl rfl rfl (by omega) (by omega)).cast (v' := .int .i64 ((8 * i : Nat) : Int)) rfl) rfl rfl rfl ?_
    refine Seq.val ((Runs.shrL rfl rfl rfl (s := 8 * i) rfl (by omega)).cast (v' := .int .u64 ((n / 256 ^ i : Nat) : Int)) (by rw [Nat.pow_mul])) rfl rfl rfl ?_
    refine Seq.val (Runs.convI rfl rfl Tryz.underlying215 Tryz.underlying5 (wrap8 (n / 256 ^ i))) rfl rfl rfl ?_
    refine Seq.slice (vs := [_]) (s := 1) rfl rfl rfl Tryz.underlying221 (by kernel_rfl) (zero_uint8) (by omega) (by omega) ⟨rfl, trivial⟩ rfl rfl rfl ?_
    intro g20 w1 n20
    have e20 := Nat.le_trans wf.below.size n20.ge
    replace wf := wf.step n20.below
    replace wr := wr.step n20.below
    have k20 := n20.blk
    have hrd : Reads w1 w1.heap.size 1 (some ⟨g20, 0, none⟩) 1 (Bt [n / 256 ^ i % 256]) := Reads.blk (size := 1) k20 1 rfl
    refine Seq.call (Enters.func rfl rfl rfl (run_enter Tryz.func342 (by kernel_rfl) rfl)) rfl rfl rfl (put_any B g _ 1 1 _ _ [n / 256 ^ i % 256] _ wr hrd (by simp; omega) (by simp; omega)) ?_
    clear wr
    rintro e w2 ⟨rfl, fw2, wr⟩
    refine ⟨_, rfl, ?_⟩
    replace wf := wf.wf fw2
    refine Seq.nil ?_
    refine Post.weak (F' := [(0, _), (1, _), (7, _), (11, _)]) ⟨rfl, rfl, rfl, rfl, trivial⟩ ?_
    refine Post.block_normal ?_
    refine Post.then_ ?_
    refine Cd.region ?_
    refine Seq.val (Runs.move rfl rfl) rfl rfl rfl ?_
    refine Seq.val (Runs.subI rfl rfl rfl (by omega) (by omega)) rfl rfl rfl ?_
    refine Seq.val (Runs.assign rfl rfl) rfl rfl rfl ?_
    refine Seq.nil ?_
    refine Post.weak (F' := [(0, _), (1, _), (7, _), (11, _)]) ⟨rfl, rfl, rfl, rfl, trivial⟩ ?_
    rw [List.append_assoc] at wr
    exact Post.round (done ++ [n / 256 ^ i % 256], i) ⟨rfl, rfl, int_at (by omega), trivial⟩ ⟨by simp; omega, by rw [← he, List.append_assoc]; rfl, wf, wr⟩ (by simp)
  · obtain rfl : j = 0 := by omega
    refine Cd.exit ?_
    refine Post.then_exit ?_
    refine Post.round_exit ?_
    refine Post.block_exit ?_
    refine Post.then_ ?_
    refine Cd.seq ?_
    refine Cd.region ?_
    refine Seq.val (Runs.move rfl rfl) rfl rfl rfl ?_
    refine Seq.val (Runs.assign rfl rfl) rfl rfl rfl ?_
    refine Seq.nil ?_
    refine Post.weak (F' := [(0, _), (1, _), (6, _), (7, _), (11, _)]) ⟨rfl, rfl, rfl, rfl, rfl, trivial⟩ ?_
    refine Post.then_ ?_
    refine Cd.ret ?_
    refine Post.end1 rfl rfl (.inl rfl) ?_
    have hde : done = beB k n := by simpa [beB] using he
    rw [hde] at wr
    exact ⟨rfl, wf, wr⟩
theorem fixed8_any (B g n : Nat) (bs : List Nat) (w : World) (h : Wr w B g bs) (hn : n < 18446744073709551616) (hl : bs.length + 8 ≤ 1000000000) :
    Calls Tryz.prog 327 #[.pointer (some ⟨g, 0, none⟩), .int .u64 (n : Int)] w fun e w' => e = .returned (.pointer (some ⟨g, 0, none⟩)) ∧ Wf B w w' ∧ Wr w' B g (bs ++ beB 8 n) := by
  have wf := Wf.refl B w
  have wr := h
  refine Calls.start 8 Tryz.func327 rfl rfl rfl ?_
  refine Cd.seq ?_
  refine Cd.region ?_
  refine Seq.val (Runs.assign rfl rfl) rfl rfl rfl ?_
  refine Seq.nil ?_
  refine Post.weak (F' := [(0, _), (1, _), (4, _)]) ⟨rfl, rfl, rfl, trivial⟩ ?_
  refine Post.then_ ?_
  refine Cd.seq ?_
  refine Cd.region ?_
  refine Seq.val (Runs.move rfl rfl) rfl rfl rfl ?_
  refine Seq.val (Runs.move rfl rfl) rfl rfl rfl ?_
  refine Seq.call (Enters.func rfl rfl rfl (run_enter Tryz.func392 (by kernel_rfl) rfl)) rfl rfl rfl (fixed_any B g n 8 _ _ wr (by omega) (by omega) hl) ?_
  clear wr
  rintro e w1 ⟨rfl, fw1, wr⟩
  refine ⟨_, rfl, ?_⟩
  replace wf := wf.wf fw1
  refine Seq.val (Runs.assign rfl rfl) rfl rfl rfl ?_
  refine Seq.nil ?_
  refine Post.weak (F' := [(0, _), (1, _), (4, _)]) ⟨rfl, rfl, rfl, trivial⟩ ?_
  refine Post.then_ ?_
  refine Cd.ret ?_
  refine Post.end1 rfl rfl (.inl rfl) ?_
  exact ⟨rfl, wf, wr⟩
end Go.Proofs.YtenikchlnfhikaaGreatDoor

namespace Go.Proofs.YtenikchlnfhikaaGreatDoor
open Go Go.RowKit

theorem idx0 {l : List Nat} (h : ∀ x ∈ l, x < 256) (h0 : ∀ x ∈ l, x ≠ 0) : Lib.indexByte (strOf l).data.toList ((0 : Int).toNat.toUInt8) = -1 := by
  have : ∀ l : List Nat, (∀ x ∈ l, x < 256) → (∀ x ∈ l, x ≠ 0) → Lib.indexByte (l.map UInt8.ofNat) (0 : UInt8) = -1 := by
    intro l
    induction l with
    | nil => intro _ _; rfl
    | cons x r ih =>
      intro h1 h2
      have hx := h1 x (by simp)
      have hx0 := h2 x (by simp)
      have e : (UInt8.ofNat x == (0 : UInt8)) = false := by
        rw [beq_eq_false_iff_ne]
        intro q
        have : (UInt8.ofNat x).toNat = 0 := by rw [q]; rfl
        simp at this
        omega
      rw [List.map_cons, Lib.indexByte, e, ih (fun y hy => h1 y (by simp [hy])) (fun y hy => h2 y (by simp [hy]))]
      rfl
  exact this l h h0
theorem here_idx (l : List Nat) (h : ∀ x ∈ l, x < 256) (h0 : ∀ x ∈ l, x ≠ 0) (w : World) : (callFunc 520 [.string (strOf l), .int .u8 0].toArray).run Tryz.prog w = .ok (.value (.int .i64 (-1))) w := by
  have := idxCon (strOf l) 0 w
  rw [idx0 h h0] at this
  exact this
theorem indexByte0_any (l : List Nat) (h : ∀ x ∈ l, x < 256) (h0 : ∀ x ∈ l, x ≠ 0) (w : World) : Calls Tryz.prog 376 #[.string (strOf l), .int .u8 0] w fun e w' => e = .returned (.int .i64 (-1)) ∧ w' = w := by
  refine Calls.start 8 Tryz.func376 rfl rfl rfl ?_
  refine Cd.seq ?_
  refine Cd.region ?_
  refine Seq.val (Runs.assign rfl rfl) rfl rfl rfl ?_
  refine Seq.nil ?_
  refine Post.weak (F' := [(0, _), (1, _), (4, _)]) ⟨rfl, rfl, rfl, trivial⟩ ?_
  refine Post.then_ ?_
  refine Cd.seq ?_
  refine Cd.region ?_
  refine Seq.val (Runs.move rfl rfl) rfl rfl rfl ?_
  refine Seq.val (Runs.move rfl rfl) rfl rfl rfl ?_
  refine Seq.val (Runs.hereI rfl rfl rfl (here_idx l h h0 _)) rfl rfl rfl ?_
  refine Seq.val (Runs.assign rfl rfl) rfl rfl rfl ?_
  refine Seq.nil ?_
  refine Post.weak (F' := [(0, _), (1, _), (4, _)]) ⟨rfl, rfl, rfl, trivial⟩ ?_
  refine Post.then_ ?_
  refine Cd.ret ?_
  refine Post.end1 rfl rfl (.inl rfl) ?_
  exact ⟨rfl, rfl⟩
theorem sIndex0_any (l : List Nat) (h : ∀ x ∈ l, x < 256) (h0 : ∀ x ∈ l, x ≠ 0) (w : World) : Calls Tryz.prog 247 #[.string (strOf l), .string (strOf [0])] w fun e w' => e = .returned (.int .i64 (-1)) ∧ w' = w := by
  refine Calls.start 143 Tryz.func247 rfl rfl rfl ?_
  refine Cd.seq ?_
  refine Cd.region ?_
  refine Seq.val (Runs.assign rfl rfl) rfl rfl rfl ?_
  refine Seq.nil ?_
  refine Post.weak (F' := [(0, _), (1, _), (4, _)]) ⟨rfl, rfl, rfl, trivial⟩ ?_
  refine Post.then_ ?_
  refine Cd.seq ?_
  refine Cd.region ?_
  refine Seq.val (Runs.move rfl rfl) rfl rfl rfl ?_
  refine Seq.val (Runs.lenL rfl rfl Tryz.underlying9) rfl rfl rfl ?_
  refine Seq.val (Runs.assign rfl rfl) rfl rfl rfl ?_
  refine Seq.nil ?_
  refine Post.weak (F' := [(0, _), (1, _), (4, _), (5, _)]) ⟨rfl, rfl, rfl, rfl, trivial⟩ ?_
  refine Post.then_ ?_
  refine Cd.seq ?_
  refine Cd.block ?_
  refine Cd.seq ?_
  refine Cd.region ?_
  refine Seq.val (Runs.move rfl rfl) rfl rfl rfl ?_
  refine Seq.val (Runs.eqlI rfl rfl rfl) rfl rfl rfl ?_
  refine Seq.val (Runs.move rfl rfl) rfl rfl rfl ?_
  refine SeqC.start ?_
  refine SeqC.open rfl rfl rfl rfl rfl rfl rfl (fun hcx => Runs.move rfl rfl) ?_
  refine SeqC.next rfl rfl rfl rfl rfl rfl rfl (fun hcx => Runs.move rfl rfl) ?_
  refine SeqC.next rfl rfl rfl rfl rfl rfl rfl (fun hcx => Runs.eqlL (a := [0]) (b := l) rfl rfl rfl (by decide) h) ?_
  refine SeqC.or rfl rfl rfl rfl rfl rfl rfl ?_
  refine Seq.val (Runs.assign rfl rfl) rfl rfl rfl ?_
  refine Seq.nil ?_
  refine Post.weak (F' := [(0, _), (1, _), (4, _), (5, _), (16, _)]) ⟨rfl, rfl, rfl, rfl, rfl, trivial⟩ ?_
  refine Post.then_ ?_
  refine Cd.condF rfl (by simp; intro q; exact h0 0 (by rw [← q]; simp) rfl) ?_
  refine Cd.seq ?_
  refine Cd.region ?_
  refine Seq.val (Runs.move rfl rfl) rfl rfl rfl ?_
  refine Seq.val (Runs.eqlI rfl rfl rfl) rfl rfl rfl ?_
  refine Seq.val (Runs.assign rfl rfl) rfl rfl rfl ?_
  refine Seq.nil ?_
  refine Post.weak (F' := [(0, _), (1, _), (4, _), (5, _), (16, _), (24, _)]) ⟨rfl, rfl, rfl, rfl, rfl, rfl, trivial⟩ ?_
  refine Post.then_ ?_
  refine Cd.condT rfl (by simp) ?_
  refine Cd.seq ?_
  refine Cd.region ?_
  refine Seq.val (Runs.move rfl rfl) rfl rfl rfl ?_
  refine Seq.val (Runs.move rfl rfl) rfl rfl rfl ?_
  refine Seq.val (Runs.indexL (l := [0]) (j := 0) (c := 0) rfl rfl rfl Tryz.underlying9 rfl rfl (by omega)) rfl rfl rfl ?_
  refine Seq.call (Enters.func rfl rfl rfl (run_enter Tryz.func376 (by kernel_rfl) rfl)) rfl rfl rfl (indexByte0_any l h h0 _) ?_
  rintro e w1 ⟨rfl, rfl⟩
  refine ⟨_, rfl, ?_⟩
  refine Seq.val (Runs.assign rfl rfl) rfl rfl rfl ?_
  refine Seq.nil ?_
  refine Post.weak (F' := [(0, _), (1, _), (4, _), (5, _), (16, _), (24, _)]) ⟨rfl, rfl, rfl, rfl, rfl, rfl, trivial⟩ ?_
  refine Post.then_ ?_
  refine Cd.ret ?_
  refine Post.block_ret ?_
  refine Post.then_ret ?_
  refine Post.end1 rfl rfl (.inl rfl) ?_
  exact ⟨rfl, rfl⟩
theorem index0_any (l : List Nat) (h : ∀ x ∈ l, x < 256) (h0 : ∀ x ∈ l, x ≠ 0) (w : World) : Calls Tryz.prog 473 #[.string (strOf l), .string (strOf [0])] w fun e w' => e = .returned (.int .i64 (-1)) ∧ w' = w := by
  refine Calls.start 8 Tryz.func473 rfl rfl rfl ?_
  refine Cd.seq ?_
  refine Cd.region ?_
  refine Seq.val (Runs.assign rfl rfl) rfl rfl rfl ?_
  refine Seq.nil ?_
  refine Post.weak (F' := [(0, _), (1, _), (4, _)]) ⟨rfl, rfl, rfl, trivial⟩ ?_
  refine Post.then_ ?_
  refine Cd.seq ?_
  refine Cd.region ?_
  refine Seq.val (Runs.move rfl rfl) rfl rfl rfl ?_
  refine Seq.val (Runs.move rfl rfl) rfl rfl rfl ?_
  refine Seq.call (Enters.func rfl rfl rfl (run_enter Tryz.func247 (by kernel_rfl) rfl)) rfl rfl rfl (sIndex0_any l h h0 _) ?_
  rintro e w1 ⟨rfl, rfl⟩
  refine ⟨_, rfl, ?_⟩
  refine Seq.val (Runs.assign rfl rfl) rfl rfl rfl ?_
  refine Seq.nil ?_
  refine Post.weak (F' := [(0, _), (1, _), (4, _)]) ⟨rfl, rfl, rfl, trivial⟩ ?_
  refine Post.then_ ?_
  refine Cd.ret ?_
  refine Post.end1 rfl rfl (.inl rfl) ?_
  exact ⟨rfl, rfl⟩
theorem contains0_any (l : List Nat) (h : ∀ x ∈ l, x < 256) (h0 : ∀ x ∈ l, x ≠ 0) (w : World) : Calls Tryz.prog 326 #[.string (strOf l), .string (strOf [0])] w fun e w' => e = .returned (.bool false) ∧ Grow w w' := by
  refine Calls.start 9 Tryz.func326 rfl rfl rfl ?_
  refine Cd.seq ?_
  refine Cd.region ?_
  refine Seq.val (Runs.assign rfl rfl) rfl rfl rfl ?_
  refine Seq.nil ?_
  refine Post.weak (F' := [(0, _), (1, _), (4, _)]) ⟨rfl, rfl, rfl, trivial⟩ ?_
  refine Post.then_ ?_
  refine Cd.seq ?_
  refine Cd.region ?_
  refine Seq.val (Runs.move rfl rfl) rfl rfl rfl ?_
  refine Seq.val (Runs.move rfl rfl) rfl rfl rfl ?_
  refine Seq.call (Enters.func rfl rfl rfl (run_enter Tryz.func473 (by kernel_rfl) rfl)) rfl rfl rfl (index0_any l h h0 _) ?_
  rintro e w1 ⟨rfl, rfl⟩
  refine ⟨_, rfl, ?_⟩
  refine Seq.val (Runs.geq rfl rfl rfl) rfl rfl rfl ?_
  refine Seq.val (Runs.assign rfl rfl) rfl rfl rfl ?_
  refine Seq.nil ?_
  refine Post.weak (F' := [(0, _), (1, _), (4, _)]) ⟨rfl, rfl, rfl, trivial⟩ ?_
  refine Post.then_ ?_
  refine Cd.ret ?_
  refine Post.end1 rfl rfl (.inl rfl) ?_
  exact ⟨rfl, Below.refl _ _⟩
/-- An inner key. -/
def innerL (l : List Nat) : List Nat := l ++ [0] ++ beB 8 4611686018427387904
theorem run_build_wr (W : World) : (Instr.build 223 #[]).run Tryz.prog W = .ok (.agg #[.slice none 0 0]) W := by kernel_rfl
set_option maxHeartbeats 1000000 in
theorem pack_key (l : List Nat) (h : ∀ x ∈ l, x < 256) (h0 : ∀ x ∈ l, x ≠ 0) (h1 : 0 < l.length) (h2 : l.length ≤ 64) (w : World) : Calls Tryz.prog 195 #[.string (strOf l), .int .i64 0] w fun e w' => e = .returned (.tuple #[.string (strOf (innerL l)), .bool true]) ∧ Below w.heap.size w w' := by
  have bel := Below.refl w.heap.size w
  have hne : l ≠ [] := fun q => by rw [q] at h1; simp at h1
  refine Calls.start 37 Tryz.func195 rfl rfl rfl ?_
  refine Cd.seq ?_
  refine Cd.region ?_
  refine Seq.val (Runs.assign rfl rfl) rfl rfl rfl ?_
  refine Seq.val (Runs.assign rfl rfl) rfl rfl rfl ?_
  refine Seq.nil ?_
  refine Post.weak (F' := [(0, _), (1, _), (4, _), (5, _)]) ⟨rfl, rfl, rfl, rfl, trivial⟩ ?_
  refine Post.then_ ?_
  refine Cd.seq ?_
  refine Cd.seq ?_
  refine Cd.region ?_
  refine Seq.val (Runs.move rfl rfl) rfl rfl rfl ?_
  refine Seq.val (Runs.eqlL (a := l) (b := []) rfl rfl rfl h (by simp)) rfl rfl rfl ?_
  refine Seq.val (Runs.move rfl rfl) rfl rfl rfl ?_
  refine SeqC.start ?_
  refine SeqC.open rfl rfl rfl rfl rfl rfl rfl (fun hcx => Runs.move rfl rfl) ?_
  refine SeqC.next rfl rfl rfl rfl rfl rfl rfl (fun hcx => Runs.lenL rfl rfl Tryz.underlying9) ?_
  refine SeqC.next rfl rfl rfl rfl rfl rfl rfl (fun hcx => Runs.gtr rfl rfl rfl) ?_
  refine SeqC.or rfl rfl rfl rfl rfl rfl rfl ?_
  refine Seq.val (Runs.move rfl rfl) rfl rfl rfl ?_
  refine SeqC.start ?_
  refine SeqC.open rfl rfl rfl rfl rfl rfl rfl (fun hcx => Runs.move rfl rfl) ?_
  refine SeqC.nextC rfl rfl rfl rfl rfl rfl rfl (fun hcx => Enters.func rfl rfl rfl (run_enter Tryz.func326 (by kernel_rfl) rfl)) (fun hcx => contains0_any l h h0 _) ?_
  intro w1 hw1
  replace bel := bel.step hw1
  refine SeqC.or rfl rfl rfl rfl rfl rfl rfl ?_
  refine Seq.val (Runs.move rfl rfl) rfl rfl rfl ?_
  refine SeqC.start ?_
  refine SeqC.open rfl rfl rfl rfl rfl rfl rfl (fun hcx => Runs.move rfl rfl) ?_
  refine SeqC.next rfl rfl rfl rfl rfl rfl rfl (fun hcx => Runs.lss rfl rfl rfl) ?_
  refine SeqC.or rfl rfl rfl rfl rfl rfl rfl ?_
  refine Seq.val (Runs.move rfl rfl) rfl rfl rfl ?_
  refine SeqC.start ?_
  refine SeqC.open rfl rfl rfl rfl rfl rfl rfl (fun hcx => Runs.move rfl rfl) ?_
  refine SeqC.next rfl rfl rfl rfl rfl rfl rfl (fun hcx => Runs.gtr rfl rfl rfl) ?_
  refine SeqC.or rfl rfl rfl rfl rfl rfl rfl ?_
  refine Seq.nil ?_
  refine Post.weak (F' := [(0, _), (1, _), (4, _), (5, _), (25, _)]) ⟨rfl, rfl, rfl, rfl, rfl, trivial⟩ ?_
  refine Post.then_ ?_
  refine Cd.condF rfl (by simp [hne]; omega) ?_
  refine Cd.skip ?_
  refine Post.then_ ?_
  refine Cd.seq ?_
  refine Cd.region ?_
  refine Seq.val (Runs.build rfl rfl (run_build_wr _)) rfl rfl rfl ?_
  refine Seq.box rfl rfl rfl rfl rfl ?_
  intro g27 w2 n27
  have e27 := Nat.le_trans bel.size n27.ge
  replace bel := bel.step n27.below
  have k27 := n27.blk
  refine Seq.val (Runs.assign rfl rfl) rfl rfl rfl ?_
  refine Seq.nil ?_
  refine Post.weak (F' := [(0, _), (1, _), (4, _), (5, _), (6, _), (25, _)]) ⟨rfl, rfl, rfl, rfl, rfl, rfl, trivial⟩ ?_
  refine Post.then_ ?_
  refine Cd.seq ?_
  refine Cd.region ?_
  refine Seq.val (Runs.move rfl rfl) rfl rfl rfl ?_
  refine Seq.val (Runs.move rfl rfl) rfl rfl rfl ?_
  have wf := Wf.refl w.heap.size w2
  have wr : Wr w2 w.heap.size g27 [] := ⟨e27, by simp, _, k27, Own.nil _ _ _ _⟩
  refine Seq.call (Enters.func rfl rfl rfl (run_enter Tryz.func214 (by kernel_rfl) rfl)) rfl rfl rfl (raw_any w.heap.size g27 l [] _ wr h (by simp; omega)) ?_
  clear wr
  rintro e w3 ⟨rfl, fw3, wr⟩
  refine ⟨_, rfl, ?_⟩
  replace wf := wf.wf fw3
  refine Seq.call (Enters.func rfl rfl rfl (run_enter Tryz.func214 (by kernel_rfl) rfl)) rfl rfl rfl (raw_any w.heap.size g27 [0] _ _ wr (by decide) (by simp; omega)) ?_
  clear wr
  rintro e w4 ⟨rfl, fw4, wr⟩
  refine ⟨_, rfl, ?_⟩
  replace wf := wf.wf fw4
  refine Seq.val (Runs.move rfl rfl) rfl rfl rfl ?_
  refine Seq.val (Runs.subI rfl rfl rfl (by omega) (by omega)) rfl rfl rfl ?_
  refine Seq.val (Runs.convU (r := 4611686018427387904) rfl rfl Tryz.underlying3 Tryz.underlying215 (by decide)) rfl rfl rfl ?_
  refine Seq.call (Enters.func rfl rfl rfl (run_enter Tryz.func327 (by kernel_rfl) rfl)) rfl rfl rfl (fixed8_any w.heap.size g27 4611686018427387904 _ _ wr (by omega) (by simp; omega)) ?_
  clear wr
  rintro e w5 ⟨rfl, fw5, wr⟩
  refine ⟨_, rfl, ?_⟩
  replace wf := wf.wf fw5
  refine Seq.call (Enters.func rfl rfl rfl (run_enter Tryz.func116 (by kernel_rfl) rfl)) rfl rfl rfl (wbytes_any w.heap.size g27 _ _ wr) ?_
  rintro e w9 ⟨rfl, hb9⟩
  refine ⟨_, rfl, ?_⟩
  replace wf := wf.step hb9
  refine Seq.val (Runs.assign rfl rfl) rfl rfl rfl ?_
  refine Seq.val (Runs.assign rfl rfl) rfl rfl rfl ?_
  refine Seq.nil ?_
  refine Post.weak (F' := [(0, _), (1, _), (4, _), (5, _), (6, _), (25, _)]) ⟨rfl, rfl, rfl, rfl, rfl, rfl, trivial⟩ ?_
  refine Post.then_ ?_
  refine Cd.ret ?_
  refine Post.end2 rfl rfl rfl (.inl rfl) ?_
  exact ⟨rfl, bel.trans (wf.to bel.size)⟩
end Go.Proofs.YtenikchlnfhikaaGreatDoor

set_option linter.unusedVariables false
namespace Go.Proofs.YtenikchlnfhikaaGreatDoor
open Go Go.RowKit
noncomputable abbrev rowS : RI.Ob := .row 203 13 0 0 (RI.wrT [.ptr (some (.own 1 0 0)), .int .i64 2, .int .i64 4000, .int .i64 2, .int .i64 1000, .ptr (some (.own 5 0 0)), .ptr (some (.own 113 0 0)), .ptr (some (.own 137 0 0)), .int .i64 0, .ptr (some (.own 140 0 0)), .mp (some 128), .ptr (some (.own 143 0 0)), .int .i64 0] 0 .lf)
noncomputable abbrev rowE : RI.Ob := .row 105 3 0 0 (RI.wrT [.ptr (some (.own 144 0 0)), .int .i64 0, .int .i64 0] 0 .lf)
end Go.Proofs.YtenikchlnfhikaaGreatDoor

namespace Go.Proofs.YtenikchlnfhikaaGreatDoor
open Go Go.RowKit

noncomputable abbrev p144 : RI.V := .ptr (some (.own 144 0 0))
noncomputable abbrev p137 : RI.V := .ptr (some (.own 137 0 0))
noncomputable abbrev p5 : RI.V := .ptr (some (.own 5 0 0))
noncomputable def sLast (S : RI.St) : RI.St := (getR (runO 104 [p144] S)).s
noncomputable def sAsk (S : RI.St) : RI.St := (getR (runO 201 [p144, .int .i64 0] (sLast S))).s
noncomputable def sFrom (S : RI.St) (l : List Nat) : RI.St := (getR (runO 202 [p137, .str (innerL l)] (sAsk S))).s
noncomputable def sVer (S : RI.St) (l : List Nat) : RI.Rr := getR (runO 94 [p5] (sFrom S l))
noncomputable def nextS (S : RI.St) (l : List Nat) : RI.St := (getR (runO 205 [(sVer S l).v, .str l] (sVer S l).s)).s
/-- The runs that Get calls. -/
structure GetOk (S : RI.St) (l : List Nat) : Prop where
  last : isV (.int .i64 0) (runO 104 [p144] S) = true
  ask : isV (.int .i64 0) (runO 201 [p144, .int .i64 0] (sLast S)) = true
  r1 : (sAsk S).h.get 144 = some rowS
  from_ : isV (.tup [.str [], .str [], .bool false]) (runO 202 [p137, .str (innerL l)] (sAsk S)) = true
  r2 : (sFrom S l).h.get 144 = some rowS
  ver : isOne (runO 94 [p5] (sFrom S l)) = true
  hold : isV (.sl none 0 0) (runO 205 [(sVer S l).v, .str l] (sVer S l).s) = true
theorem rv_tup3 {ρ : RI.Env} {L : RI.Loc} {x : Value} {a b c : RI.V} (h : RI.RV ρ L (.tup [a, b, c]) x) : ∃ u v z, x = .tuple #[u, v, z] ∧ RI.RV ρ L a u ∧ RI.RV ρ L b v ∧ RI.RV ρ L c z := by
  cases h with
  | tup h =>
    rcases h with _ | ⟨h1, h⟩
    rcases h with _ | ⟨h2, h⟩
    rcases h with _ | ⟨h3, h⟩
    cases h
    exact ⟨_, _, _, rfl, h1, h2, h3⟩
theorem innerL_lt {l : List Nat} (h : ∀ x ∈ l, x < 256) : ∀ x ∈ innerL l, x < 256 := by
  intro x hx
  unfold innerL at hx
  simp only [List.mem_append, List.mem_singleton] at hx
  rcases hx with (hx | hx) | hx
  · exact h x hx
  · omega
  · exact beB_lt _ _ x hx
/-- A key that may be. -/
structure KeyOk (l : List Nat) : Prop where
  lt : ∀ x ∈ l, x < 256
  nz : ∀ x ∈ l, x ≠ 0
  pos : 0 < l.length
  le : l.length ≤ 64
set_option maxHeartbeats 2000000 in
theorem getAt_none {w0 w : World} {y : Value} (nb : Nb w0) {S : RI.St} {L : RI.Loc} {l : List Nat} (hat : At w0 y (sLast S) w L) (ok : GetOk S l) (hk : KeyOk l) {B sz : Nat} (hB : L 144 0 = some (B, 0, sz)) :
    Calls Tryz.prog 103 #[.pointer (some ⟨B, 0, none⟩), .string (strOf l), .int .i64 0] w fun e w' => ∃ L', e = .returned (.tuple #[.string (strOf []), .bool false, .int .i64 0]) ∧ L.le L' ∧ At w0 y (nextS S l) w' L' := by
  have hp := RI.RV.ptr (ρ := ρx y) (RI.RA.own (o := 0) hB)
  refine Calls.start 130 Tryz.func103 rfl rfl rfl ?_
  refine Cd.seq ?_
  refine Cd.region ?_
  refine Seq.val (Runs.assign rfl rfl) rfl rfl rfl ?_
  refine Seq.val (Runs.assign rfl rfl) rfl rfl rfl ?_
  refine Seq.val (Runs.assign rfl rfl) rfl rfl rfl ?_
  refine Seq.nil ?_
  refine Post.weak (F' := [(0, _), (1, _), (2, _), (6, _), (7, _), (8, _)]) ⟨rfl, rfl, rfl, rfl, rfl, rfl, trivial⟩ ?_
  refine Post.then_ ?_
  refine Cd.seq ?_
  refine Cd.region ?_
  refine Seq.val (Runs.move rfl rfl) rfl rfl rfl ?_
  refine Seq.val (Runs.move rfl rfl) rfl rfl rfl ?_
  refine Seq.val (Runs.max2 rfl rfl rfl) rfl rfl rfl ?_
  refine Seq.call (Enters.func rfl rfl rfl (run_enter Tryz.func195 (by kernel_rfl) rfl)) rfl rfl rfl (pack_key l hk.lt hk.nz hk.pos hk.le _) ?_
  rintro e w1 ⟨rfl, hb1⟩
  refine ⟨_, rfl, ?_⟩
  have hat1 := hat.grow hb1
  refine Seq.val (Runs.move rfl rfl) rfl rfl rfl ?_
  refine Seq.val (Runs.extract rfl rfl rfl) rfl rfl rfl ?_
  refine Seq.val (Runs.extract rfl rfl rfl) rfl rfl rfl ?_
  refine Seq.val (Runs.assign rfl rfl) rfl rfl rfl ?_
  refine Seq.val (Runs.assign rfl rfl) rfl rfl rfl ?_
  refine Seq.nil ?_
  refine Post.weak (F' := [(0, _), (1, _), (2, _), (6, _), (7, _), (8, _), (9, _), (10, _)]) ⟨rfl, rfl, rfl, rfl, rfl, rfl, rfl, rfl, trivial⟩ ?_
  refine Post.then_ ?_
  refine Cd.seq ?_
  refine Cd.seq ?_
  refine Cd.region ?_
  refine Seq.val (Runs.move rfl rfl) rfl rfl rfl ?_
  refine Seq.val (Runs.not rfl rfl) rfl rfl rfl ?_
  refine Seq.nil ?_
  refine Post.weak (F' := [(0, _), (1, _), (2, _), (6, _), (7, _), (8, _), (9, _), (10, _), (37, _)]) ⟨rfl, rfl, rfl, rfl, rfl, rfl, rfl, rfl, rfl, trivial⟩ ?_
  refine Post.then_ ?_
  refine Cd.condF rfl (by simp) ?_
  refine Cd.skip ?_
  refine Post.then_ ?_
  refine Cd.seq ?_
  refine Cd.seq ?_
  refine Cd.region ?_
  refine Seq.val (Runs.move rfl rfl) rfl rfl rfl ?_
  refine Seq.val (Runs.move rfl rfl) rfl rfl rfl ?_
  refine Seq.call (Enters.func rfl rfl rfl (run_enter Tryz.func201 (by kernel_rfl) rfl)) rfl rfl rfl (runs_from nb hat1 (f := 201) (l := [p144, .int .i64 0]) (xs := [.pointer (some ⟨B, 0 + 0, none⟩), .int .i64 0]) (.cons hp (.cons (.int _ _) .nil)) (isV_spec ok.ask).1 (RI.run_enter Tryz.func201 (by kernel_rfl) rfl _ _)) ?_
  rintro e w2 ⟨x2, L2, rfl, hl2, hat2, hx2⟩
  refine ⟨_, rfl, ?_⟩
  rw [(isV_spec ok.ask).2] at hx2
  obtain rfl := rv_int hx2
  replace hat2 : At w0 y (sAsk S) w2 L2 := hat2
  obtain ⟨-, hc1⟩ := hat2.row ok.r1 (hl2 _ _ _ hB)
  obtain ⟨m7, hm7, hr7⟩ := hc1 7 _ (by omega) rfl
  obtain ⟨a7, rfl, -⟩ := rv_ptr hr7
  have hm7' : w2.cell? ((⟨B, 0, none⟩ : Addr).add 7) = some (.pointer (some a7)) := by rw [Addr.add_lit]; exact hm7
  refine Seq.val (Runs.assign rfl rfl) rfl rfl rfl ?_
  refine Seq.nil ?_
  refine Post.weak (F' := [(0, _), (1, _), (2, _), (6, _), (7, _), (8, _), (9, _), (10, _), (11, _), (37, _)]) ⟨rfl, rfl, rfl, rfl, rfl, rfl, rfl, rfl, rfl, rfl, trivial⟩ ?_
  refine Post.then_ ?_
  refine Cd.seq ?_
  refine Cd.region ?_
  refine Seq.val (Runs.move rfl rfl) rfl rfl rfl ?_
  refine Seq.val (Runs.neqI rfl rfl rfl) rfl rfl rfl ?_
  refine Seq.nil ?_
  refine Post.weak (F' := [(0, _), (1, _), (2, _), (6, _), (7, _), (8, _), (9, _), (10, _), (11, _), (37, _), (42, _)]) ⟨rfl, rfl, rfl, rfl, rfl, rfl, rfl, rfl, rfl, rfl, rfl, trivial⟩ ?_
  refine Post.then_ ?_
  refine Cd.condF rfl (by simp) ?_
  refine Cd.skip ?_
  refine Post.then_ ?_
  refine Cd.seq ?_
  refine Cd.seq ?_
  refine Cd.region ?_
  refine Seq.val (Runs.move rfl rfl) rfl rfl rfl ?_
  refine Seq.val (Runs.nilCheck rfl rfl) rfl rfl rfl ?_
  refine Seq.val (Runs.fieldA 7 rfl rfl Tryz.underlying203 rfl (by kernel_rfl)) rfl rfl rfl ?_
  refine Seq.val (Runs.load1 rfl rfl Tryz.underlying192 rfl hm7') rfl rfl rfl ?_
  refine Seq.val (Runs.move rfl rfl) rfl rfl rfl ?_
  refine Seq.call (Enters.func rfl rfl rfl (run_enter Tryz.func202 (by kernel_rfl) rfl)) rfl rfl rfl (runs_from nb hat2 (f := 202) (l := [p137, .str (innerL l)]) (xs := [.pointer (some a7), .string (strOf (innerL l))]) (.cons hr7 (.cons (rv_of (innerL_lt hk.lt)) .nil)) (isV_spec ok.from_).1 (RI.run_enter Tryz.func202 (by kernel_rfl) rfl _ _)) ?_
  rintro e w3 ⟨x3, L3, rfl, hl3, hat3, hx3⟩
  refine ⟨_, rfl, ?_⟩
  rw [(isV_spec ok.from_).2] at hx3
  obtain ⟨u0, u1, u2, rfl, hu0, hu1, hu2⟩ := rv_tup3 hx3
  obtain rfl := rv_str hu0
  obtain rfl := rv_str hu1
  obtain rfl := rv_bool hu2
  replace hat3 : At w0 y (sFrom S l) w3 L3 := hat3
  obtain ⟨-, hc2⟩ := hat3.row ok.r2 (hl3 _ _ _ (hl2 _ _ _ hB))
  obtain ⟨m5, hm5, hr5⟩ := hc2 5 _ (by omega) rfl
  obtain ⟨a5, rfl, -⟩ := rv_ptr hr5
  have hm5' : w3.cell? ((⟨B, 0, none⟩ : Addr).add 5) = some (.pointer (some a5)) := by rw [Addr.add_lit]; exact hm5
  refine Seq.val (Runs.move rfl rfl) rfl rfl rfl ?_
  refine Seq.val (Runs.extract rfl rfl rfl) rfl rfl rfl ?_
  refine Seq.val (Runs.extract rfl rfl rfl) rfl rfl rfl ?_
  refine Seq.val (Runs.extract rfl rfl rfl) rfl rfl rfl ?_
  refine Seq.val (Runs.assign rfl rfl) rfl rfl rfl ?_
  refine Seq.val (Runs.assign rfl rfl) rfl rfl rfl ?_
  refine Seq.val (Runs.assign rfl rfl) rfl rfl rfl ?_
  refine Seq.nil ?_
  refine Post.weak (F' := [(0, _), (1, _), (2, _), (6, _), (7, _), (8, _), (9, _), (10, _), (11, _), (12, _), (13, _), (14, _), (37, _), (42, _)]) ⟨rfl, rfl, rfl, rfl, rfl, rfl, rfl, rfl, rfl, rfl, rfl, rfl, rfl, rfl, trivial⟩ ?_
  refine Post.then_ ?_
  refine Cd.seq ?_
  refine Cd.region ?_
  refine Seq.val (Runs.move rfl rfl) rfl rfl rfl ?_
  refine Seq.nil ?_
  refine Post.weak (F' := [(0, _), (1, _), (2, _), (6, _), (7, _), (8, _), (9, _), (10, _), (11, _), (12, _), (13, _), (14, _), (37, _), (42, _), (54, _)]) ⟨rfl, rfl, rfl, rfl, rfl, rfl, rfl, rfl, rfl, rfl, rfl, rfl, rfl, rfl, rfl, trivial⟩ ?_
  refine Post.then_ ?_
  refine Cd.condF rfl (by simp) ?_
  refine Cd.skip ?_
  refine Post.then_ ?_
  refine Cd.seq ?_
  refine Cd.seq ?_
  refine Cd.region ?_
  refine Seq.val (Runs.move rfl rfl) rfl rfl rfl ?_
  refine Seq.val (Runs.nilCheck rfl rfl) rfl rfl rfl ?_
  refine Seq.val (Runs.fieldA 5 rfl rfl Tryz.underlying203 rfl (by kernel_rfl)) rfl rfl rfl ?_
  refine Seq.val (Runs.load1 rfl rfl Tryz.underlying180 rfl hm5') rfl rfl rfl ?_
  refine Seq.call (Enters.func rfl rfl rfl (run_enter Tryz.func94 (by kernel_rfl) rfl)) rfl rfl rfl (runs_from nb hat3 (f := 94) (l := [p5]) (xs := [.pointer (some a5)]) (.cons hr5 .nil) ok.ver (RI.run_enter Tryz.func94 (by kernel_rfl) rfl _ _)) ?_
  rintro e w4 ⟨x4, L4, rfl, hl4, hat4, hx4⟩
  refine ⟨_, rfl, ?_⟩
  replace hat4 : At w0 y (sVer S l).s w4 L4 := hat4
  replace hx4 : RI.RV (ρx y) L4 (sVer S l).v x4 := hx4
  refine Seq.val (Runs.move rfl rfl) rfl rfl rfl ?_
  refine Seq.call (Enters.func rfl rfl rfl (run_enter Tryz.func205 (by kernel_rfl) rfl)) rfl rfl rfl (runs_from nb hat4 (f := 205) (l := [(sVer S l).v, .str l]) (xs := [x4, .string (strOf l)]) (.cons hx4 (.cons (rv_of hk.lt) .nil)) (isV_spec ok.hold).1 (RI.run_enter Tryz.func205 (by kernel_rfl) rfl _ _)) ?_
  rintro e w5 ⟨x5, L5, rfl, hl5, hat5, hx5⟩
  refine ⟨_, rfl, ?_⟩
  rw [(isV_spec ok.hold).2] at hx5
  replace hat5 : At w0 y (nextS S l) w5 L5 := hat5
  cases hx5
  refine Seq.val (Runs.len rfl rfl Tryz.underlying187) rfl rfl rfl ?_
  refine Seq.val (Runs.move rfl rfl) rfl rfl rfl ?_
  refine Seq.nil ?_
  refine Post.weak (F' := [(0, _), (1, _), (2, _), (6, _), (7, _), (8, _), (9, _), (10, _), (11, _), (12, _), (13, _), (14, _), (37, _), (42, _), (54, _), (74, _), (75, _), (76, _)]) ⟨rfl, rfl, rfl, rfl, rfl, rfl, rfl, rfl, rfl, rfl, rfl, rfl, rfl, rfl, rfl, rfl, rfl, rfl, trivial⟩ ?_
  refine Post.then_ ?_
  refine Cd.block ?_
  refine Cd.loop (σ := Unit) (fun _ => [(75, .int .i64 ((0 : Nat) : Int)), (76, .int .i64 0)]) (fun _ wr => wr = w5) (fun _ => 0) () rfl ⟨rfl, rfl, trivial⟩ ?_
  rintro u wr rfl
  show Cd _ _ _ _ [(75, .int .i64 ((0 : Nat) : Int)), (76, .int .i64 0)] _
  refine Cd.seq ?_
  refine Cd.region ?_
  refine Seq.val (Runs.lss rfl rfl rfl) rfl rfl rfl ?_
  refine Seq.nil ?_
  refine Post.weak (F' := [(75, _), (76, _), (77, _)]) ⟨rfl, rfl, rfl, trivial⟩ ?_
  refine Post.then_ ?_
  refine Cd.seq ?_
  refine Cd.condF rfl (by simp) ?_
  refine Cd.exit ?_
  refine Post.then_exit ?_
  refine Post.round_exit ?_
  refine Post.block_exit ?_
  refine Post.then_ ?_
  refine Cd.seq ?_
  refine Cd.region ?_
  refine Seq.val (Runs.assign rfl rfl) rfl rfl rfl ?_
  refine Seq.val (Runs.assign rfl rfl) rfl rfl rfl ?_
  refine Seq.val (Runs.assign rfl rfl) rfl rfl rfl ?_
  refine Seq.nil ?_
  refine Post.weak (F' := [(6, _), (7, _), (8, _), (75, _), (76, _), (77, _)]) ⟨rfl, rfl, rfl, rfl, rfl, rfl, trivial⟩ ?_
  refine Post.then_ ?_
  refine Cd.ret ?_
  refine Post.end3 rfl rfl rfl rfl (.inl rfl) ?_
  exact ⟨L5, rfl, fun b g x h => hl5 _ _ _ (hl4 _ _ _ (hl3 _ _ _ (hl2 _ _ _ h))), hat5⟩
theorem get_none {w0 w : World} {y : Value} (nb : Nb w0) {S : RI.St} {L : RI.Loc} {l : List Nat} (hat : At w0 y S w L) (ok : GetOk S l) (hk : KeyOk l) {B sz : Nat} (hB : L 144 0 = some (B, 0, sz)) :
    Calls Tryz.prog 41 #[.pointer (some ⟨B, 0, none⟩), .string (strOf l)] w fun e w' => ∃ L', e = .returned (.tuple #[.string (strOf []), .bool false, .int .i64 0]) ∧ L.le L' ∧ At w0 y (nextS S l) w' L' := by
  have hp := RI.RV.ptr (ρ := ρx y) (RI.RA.own (o := 0) hB)
  refine Calls.start 15 Tryz.func41 rfl rfl rfl ?_
  refine Cd.seq ?_
  refine Cd.region ?_
  refine Seq.val (Runs.assign rfl rfl) rfl rfl rfl ?_
  refine Seq.val (Runs.assign rfl rfl) rfl rfl rfl ?_
  refine Seq.val (Runs.assign rfl rfl) rfl rfl rfl ?_
  refine Seq.nil ?_
  refine Post.weak (F' := [(0, _), (1, _), (4, _), (5, _), (6, _)]) ⟨rfl, rfl, rfl, rfl, rfl, trivial⟩ ?_
  refine Post.then_ ?_
  refine Cd.seq ?_
  refine Cd.region ?_
  refine Seq.val (Runs.move rfl rfl) rfl rfl rfl ?_
  refine Seq.val (Runs.move rfl rfl) rfl rfl rfl ?_
  refine Seq.val (Runs.move rfl rfl) rfl rfl rfl ?_
  refine Seq.call (Enters.func rfl rfl rfl (run_enter Tryz.func104 (by kernel_rfl) rfl)) rfl rfl rfl (runs_from nb hat (f := 104) (l := [p144]) (xs := [.pointer (some ⟨B, 0 + 0, none⟩)]) (.cons hp .nil) (isV_spec ok.last).1 (RI.run_enter Tryz.func104 (by kernel_rfl) rfl _ _)) ?_
  rintro e w1 ⟨x1, L1, rfl, hl1, hat1, hx1⟩
  refine ⟨_, rfl, ?_⟩
  rw [(isV_spec ok.last).2] at hx1
  obtain rfl := rv_int hx1
  replace hat1 : At w0 y (sLast S) w1 L1 := hat1
  refine Seq.call (Enters.func rfl rfl rfl (run_enter Tryz.func103 (by kernel_rfl) rfl)) rfl rfl rfl (getAt_none nb hat1 ok hk (hl1 _ _ _ hB)) ?_
  rintro e w2 ⟨L2, rfl, hl2, hat2⟩
  refine ⟨_, rfl, ?_⟩
  refine Seq.val (Runs.extract rfl rfl rfl) rfl rfl rfl ?_
  refine Seq.val (Runs.extract rfl rfl rfl) rfl rfl rfl ?_
  refine Seq.val (Runs.extract rfl rfl rfl) rfl rfl rfl ?_
  refine Seq.val (Runs.assign rfl rfl) rfl rfl rfl ?_
  refine Seq.val (Runs.assign rfl rfl) rfl rfl rfl ?_
  refine Seq.val (Runs.assign rfl rfl) rfl rfl rfl ?_
  refine Seq.nil ?_
  refine Post.weak (F' := [(0, _), (1, _), (4, _), (5, _), (6, _)]) ⟨rfl, rfl, rfl, rfl, rfl, trivial⟩ ?_
  refine Post.then_ ?_
  refine Cd.ret ?_
  refine Post.end3 rfl rfl rfl rfl (.inl rfl) ?_
  exact ⟨L2, rfl, fun b g x h => hl2 _ _ _ (hl1 _ _ _ h), hat2⟩
end Go.Proofs.YtenikchlnfhikaaGreatDoor

namespace Go.Proofs.YtenikchlnfhikaaGreatDoor
open Go Go.RowKit

abbrev conZ : Value := .agg #[.string { data := #[] }, .string { data := #[] }, .string { data := #[] }, .string { data := #[] }, .int .i64 0, .int .i64 0, .int .i64 0, .slice none 0 0]
theorem run_build_con (W : World) : (Instr.build 48 #[]).run Tryz.prog W = .ok conZ W := by kernel_rfl
/-- A block that is made meanwhile, taken in: of its cells nothing is kept. -/
noncomputable def more (S : RI.St) (T : Nat) : RI.St := ⟨S.h.put S.nx (.row T 0 0 0 .lf), S.nx + 1⟩
theorem At.adopt {w0 w w' : World} {y : Value} {S : RI.St} {L : RI.Loc} (h : At w0 y S w L) {g T : Nat} {cs : Array Value} (n : New w w' g T cs) : L.le (L.put S.nx 0 (g, 0, cs.size)) ∧ At w0 y (more S T) w' (L.put S.nx 0 (g, 0, cs.size)) := by
  have hn0 : L S.nx 0 = none := h.rel.fresh _ 0 (Nat.le_refl _)
  have hle := RI.Loc.le_put hn0 (g, 0, cs.size)
  refine ⟨hle, h.es, h.one, (h.rel.more (.row T 0 0 0 .lf)).layAt n.below (b := S.nx) (RI.Tr.get_put_self _ _ _) (by simp) h.rel.free hn0 n.ge cs.size ?_⟩
  intro B' base' sz' e'
  replace e' : L.put S.nx 0 (g, 0, cs.size) S.nx 0 = some (B', base', sz') := e'
  rw [RI.Loc.put_self] at e'
  injection e' with e'
  injection e' with e1 e2
  injection e2 with e2 e3
  subst e1 e2 e3
  exact ⟨Nat.le_trans h.rel.below.size n.ge, rfl, cs, (0, 0), n.blk, rfl, by omega, fun _ => rfl, fun _ => .inr rfl, fun i v hi hv => by omega⟩
theorem At.blk0 {w0 w : World} {y : Value} {S : RI.St} {L : RI.Loc} (h : At w0 y S w L) {b T g sz : Nat} (hb : S.h.get b = some (.row T 0 0 0 .lf)) (hL : L b 0 = some (g, 0, sz)) : ∃ C, Blk w g T C ∧ C.size = sz ∧ w0.heap.size ≤ g := by
  obtain ⟨h1, -, C, fz, k1, k2, -, k3, -, -⟩ := h.rel.row hb hL
  obtain rfl := k3 rfl
  exact ⟨C, k1, k2, h1⟩
theorem At.putB {w0 w w' : World} {y : Value} {S : RI.St} {L : RI.Loc} (h : At w0 y S w L) {b T g sz : Nat} {cs : Array Value} (hb : S.h.get b = some (.row T 0 0 0 .lf)) (hL : L b 0 = some (g, 0, sz)) (p : Put w w' g T cs) (hs : cs.size = sz) : At w0 y S w' L := by
  obtain ⟨C, k1, k2, k3⟩ := h.blk0 hb hL
  have h1 := h.rel.set hb (o' := .row T 0 0 0 .lf) rfl (w' := w') (h.rel.below.trans (p.below k3 k1.lt)) (by
    intro B' base' sz' e'
    replace e' : L b 0 = some (B', base', sz') := e'
    rw [hL] at e'
    injection e' with e'
    injection e' with e1 e2
    injection e2 with e2 e3
    subst e1 e2 e3
    exact ⟨k3, rfl, cs, (0, 0), p.blk, hs, by omega, fun _ => rfl, fun _ => .inr rfl, fun i v hi hv => by omega⟩) (fun k hk hlt => p.grown.block k hlt (fun q => hk _ hL (by injection q)))
  refine ⟨h.es, h.one, h1.forget rfl fun b' o' hb' => ?_⟩
  show (S.h.put b _).get b' = _
  rw [RI.Tr.get_put]
  split
  · rename_i q
    rw [q, hb] at hb'
    exact hb'
  · exact hb'
theorem arr8 {C : Array Value} (h : C.size = 8) : ∃ c0 c1 c2 c3 c4 c5 c6 c7, C = #[c0, c1, c2, c3, c4, c5, c6, c7] := by
  obtain ⟨l⟩ := C
  match l, h with
  | [c0, c1, c2, c3, c4, c5, c6, c7], _ => exact ⟨_, _, _, _, _, _, _, _, rfl⟩
theorem ra_own {L : RI.Loc} {b g B base sz : Nat} {a : Addr} (h : RI.RA L (.own b g 0) a) (hL : L b g = some (B, base, sz)) : a = ⟨B, base + 0, none⟩ := by
  cases h with
  | own h =>
    rw [h] at hL
    injection hL with hL
    injection hL with h1 h2
    injection h2 with h2 h3
    subst h1 h2 h3
    rfl
/-- The runs of engine.contract. -/
structure ConOk (S : RI.St) (l : List Nat) : Prop where
  row : (more S 48).h.get 156 = some rowE
  get : GetOk (more S 48) l
  back : (nextS (more S 48) l).h.get S.nx = some (.row 48 0 0 0 .lf)
noncomputable def nextK (S : RI.St) (l : List Nat) : RI.St := nextS (more S 48) l
set_option maxHeartbeats 2000000 in
theorem contract_none {w0 w : World} {y : Value} (nb : Nb w0) {S : RI.St} {L : RI.Loc} {l : List Nat} {G B sG sB : Nat} (hat : At w0 y S w L) (hG : L 156 0 = some (G, 0, sG)) (hB : L 144 0 = some (B, 0, sB)) (ok : ConOk S l) (hk : KeyOk l) :
    Calls Tryz.prog 51 #[.pointer (some ⟨G, 0, none⟩), .string (strOf l)] w fun e w' => ∃ L', e = .returned (.tuple #[conZ, .int .i64 7]) ∧ L.le L' ∧ At w0 y (nextK S l) w' L' := by
  have bel := Below.refl w.heap.size w
  refine Calls.start 41 Tryz.func51 rfl rfl rfl ?_
  refine Cd.seq ?_
  refine Cd.region ?_
  refine Seq.alloc rfl (run_zero zero_event_Contract) rfl rfl rfl ?_
  intro g4 w1 n4
  have e4 := Nat.le_trans bel.size n4.ge
  replace bel := bel.step n4.below
  have k4 := n4.blk
  refine Seq.val (Runs.assign rfl rfl) rfl rfl rfl ?_
  refine Seq.nil ?_
  refine Post.weak (F' := [(0, _), (1, _), (4, _), (5, _)]) ⟨rfl, rfl, rfl, rfl, trivial⟩ ?_
  refine Post.then_ ?_
  refine Cd.seq ?_
  refine Cd.seq ?_
  refine Cd.region ?_
  refine Seq.val (Runs.move rfl rfl) rfl rfl rfl ?_
  refine Seq.val (Runs.eqlP rfl rfl rfl Tryz.underlying36) rfl rfl rfl ?_
  refine Seq.nil ?_
  refine Post.weak (F' := [(0, _), (1, _), (4, _), (5, _), (11, _)]) ⟨rfl, rfl, rfl, rfl, rfl, trivial⟩ ?_
  refine Post.then_ ?_
  refine Cd.condF rfl (by simp) ?_
  obtain ⟨hle1, hat1⟩ := hat.adopt n4
  have hc4 : (L.put S.nx 0 (g4, 0, 8)) S.nx 0 = some (g4, 0, 8) := RI.Loc.put_self _ _ _ _
  obtain ⟨-, hc⟩ := hat1.row ok.row (hle1 _ _ _ hG)
  obtain ⟨m0, hm0, hr0⟩ := hc 0 _ (by omega) rfl
  obtain ⟨a0, rfl, hA0⟩ := rv_ptr hr0
  obtain rfl := ra_own hA0 (hle1 _ _ _ hB)
  have hm0' : w1.cell? ((⟨G, 0, none⟩ : Addr).add 0) = some (.pointer (some ⟨B, 0 + 0, none⟩)) := by rw [Addr.add_lit]; exact hm0
  refine Cd.skip ?_
  refine Post.then_ ?_
  refine Cd.seq ?_
  refine Cd.region ?_
  refine Seq.val (Runs.move rfl rfl) rfl rfl rfl ?_
  refine Seq.val (Runs.nilCheck rfl rfl) rfl rfl rfl ?_
  refine Seq.val (Runs.fieldA 0 rfl rfl Tryz.underlying105 rfl (by kernel_rfl)) rfl rfl rfl ?_
  refine Seq.val (Runs.load1 rfl rfl Tryz.underlying64 rfl hm0') rfl rfl rfl ?_
  refine Seq.val (Runs.move rfl rfl) rfl rfl rfl ?_
  refine Seq.call (Enters.func rfl rfl rfl (run_enter Tryz.func41 (by kernel_rfl) rfl)) rfl rfl rfl (get_none nb hat1 ok.get hk (hle1 _ _ _ hB)) ?_
  rintro e w2 ⟨L2, rfl, hl2, hat2⟩
  refine ⟨_, rfl, ?_⟩
  clear k4 bel
  obtain ⟨C4, k4, hs4, hg4⟩ := hat2.blk0 ok.back (hl2 _ _ _ hc4)
  obtain ⟨c0, c1, c2, c3, c4, c5, c6, c7, rfl⟩ := arr8 hs4
  refine Seq.val (Runs.move rfl rfl) rfl rfl rfl ?_
  refine Seq.val (Runs.extract rfl rfl rfl) rfl rfl rfl ?_
  refine Seq.val (Runs.extract rfl rfl rfl) rfl rfl rfl ?_
  refine Seq.val (Runs.extract rfl rfl rfl) rfl rfl rfl ?_
  refine Seq.val (Runs.assign rfl rfl) rfl rfl rfl ?_
  refine Seq.val (Runs.assign rfl rfl) rfl rfl rfl ?_
  refine Seq.val (Runs.assign rfl rfl) rfl rfl rfl ?_
  refine Seq.nil ?_
  refine Post.weak (F' := [(0, _), (1, _), (4, _), (5, _), (6, _), (7, _), (8, _), (11, _)]) ⟨rfl, rfl, rfl, rfl, rfl, rfl, rfl, rfl, trivial⟩ ?_
  refine Post.then_ ?_
  refine Cd.seq ?_
  refine Cd.block ?_
  refine Cd.seq ?_
  refine Cd.region ?_
  refine Seq.val (Runs.move rfl rfl) rfl rfl rfl ?_
  refine Seq.val (Runs.neqI rfl rfl rfl) rfl rfl rfl ?_
  refine Seq.val (Runs.assign rfl rfl) rfl rfl rfl ?_
  refine Seq.nil ?_
  refine Post.weak (F' := [(0, _), (1, _), (4, _), (5, _), (6, _), (7, _), (8, _), (11, _), (23, _)]) ⟨rfl, rfl, rfl, rfl, rfl, rfl, rfl, rfl, rfl, trivial⟩ ?_
  refine Post.then_ ?_
  refine Cd.condF rfl (by simp) ?_
  refine Cd.seq ?_
  refine Cd.region ?_
  refine Seq.val (Runs.move rfl rfl) rfl rfl rfl ?_
  refine Seq.val (Runs.not rfl rfl) rfl rfl rfl ?_
  refine Seq.val (Runs.assign rfl rfl) rfl rfl rfl ?_
  refine Seq.nil ?_
  refine Post.weak (F' := [(0, _), (1, _), (4, _), (5, _), (6, _), (7, _), (8, _), (11, _), (23, _), (28, _)]) ⟨rfl, rfl, rfl, rfl, rfl, rfl, rfl, rfl, rfl, rfl, trivial⟩ ?_
  refine Post.then_ ?_
  refine Cd.condT rfl (by simp) ?_
  refine Cd.seq ?_
  refine Cd.region ?_
  refine Seq.val (Runs.build rfl rfl (run_build_con _)) rfl rfl rfl ?_
  refine Seq.storeN rfl rfl rfl rfl (m := 8) (by kernel_rfl) rfl (by repeat' first | exact trivial | apply And.intro | rfl | assumption) k4 (by simp [Value.cells]) rfl rfl ?_
  intro w2 pw2
  replace k4 := pw2.blk
  refine Seq.val (Runs.assign rfl rfl) rfl rfl rfl ?_
  refine Seq.nil ?_
  refine Post.weak (F' := [(0, _), (1, _), (4, _), (5, _), (6, _), (7, _), (8, _), (11, _), (23, _), (28, _)]) ⟨rfl, rfl, rfl, rfl, rfl, rfl, rfl, rfl, rfl, rfl, trivial⟩ ?_
  refine Post.then_ ?_
  refine Cd.ret ?_
  refine Post.block_ret ?_
  refine Post.then_ret ?_
  refine Post.endC2 rfl rfl rfl k4 Tryz.underlying48 rfl (m := 8) (by kernel_rfl) rfl (.inl rfl) ?_
  exact ⟨L2, rfl, fun b g x h => hl2 _ _ _ (hle1 _ _ _ h), hat2.putB ok.back (hl2 _ _ _ hc4) pw2 rfl⟩
end Go.Proofs.YtenikchlnfhikaaGreatDoor

namespace Go.Proofs.YtenikchlnfhikaaGreatDoor
open Go Go.RowKit

def kC (l : List Nat) : List Nat := [99, 46] ++ l
def kF (l : List Nat) : List Nat := [97, 46] ++ l
theorem keyC_any (l : List Nat) (hl : l.length ≤ 100) (w : World) : Calls Tryz.prog 52 #[.string (strOf l)] w fun e w' => e = .returned (.string (strOf (kC l))) ∧ w' = w := by
  refine Calls.start 5 Tryz.func52 rfl rfl rfl ?_
  refine Cd.seq ?_
  refine Cd.region ?_
  refine Seq.val (Runs.assign rfl rfl) rfl rfl rfl ?_
  refine Seq.nil ?_
  refine Post.weak (F' := [(0, _), (2, _)]) ⟨rfl, rfl, trivial⟩ ?_
  refine Post.then_ ?_
  refine Cd.seq ?_
  refine Cd.region ?_
  refine Seq.val (Runs.move rfl rfl) rfl rfl rfl ?_
  refine Seq.val (Runs.addL (a := [99, 46]) (b := l) rfl rfl rfl (by simp; omega)) rfl rfl rfl ?_
  refine Seq.val (Runs.assign rfl rfl) rfl rfl rfl ?_
  refine Seq.nil ?_
  refine Post.weak (F' := [(0, _), (2, _)]) ⟨rfl, rfl, trivial⟩ ?_
  refine Post.then_ ?_
  refine Cd.ret ?_
  refine Post.end1 rfl rfl (.inl rfl) ?_
  exact ⟨rfl, rfl⟩
theorem keyF_any (l : List Nat) (hl : l.length ≤ 100) (w : World) : Calls Tryz.prog 53 #[.string (strOf l)] w fun e w' => e = .returned (.string (strOf (kF l))) ∧ w' = w := by
  refine Calls.start 5 Tryz.func53 rfl rfl rfl ?_
  refine Cd.seq ?_
  refine Cd.region ?_
  refine Seq.val (Runs.assign rfl rfl) rfl rfl rfl ?_
  refine Seq.nil ?_
  refine Post.weak (F' := [(0, _), (2, _)]) ⟨rfl, rfl, trivial⟩ ?_
  refine Post.then_ ?_
  refine Cd.seq ?_
  refine Cd.region ?_
  refine Seq.val (Runs.move rfl rfl) rfl rfl rfl ?_
  refine Seq.val (Runs.addL (a := [97, 46]) (b := l) rfl rfl rfl (by simp; omega)) rfl rfl rfl ?_
  refine Seq.val (Runs.assign rfl rfl) rfl rfl rfl ?_
  refine Seq.nil ?_
  refine Post.weak (F' := [(0, _), (2, _)]) ⟨rfl, rfl, trivial⟩ ?_
  refine Post.then_ ?_
  refine Cd.ret ?_
  refine Post.end1 rfl rfl (.inl rfl) ?_
  exact ⟨rfl, rfl⟩
/-- Ids that aren't named: no store is asked. -/
theorem contract_bad (G : Nat) (l : List Nat) (hl : ∀ x ∈ l, x < 256) (hlen : l.length ≤ 9223372036854775807) (hn : namedB l = false) (w : World) :
    Calls Tryz.prog 13 #[.pointer (some ⟨G, 0, none⟩), .string (strOf l)] w fun e w' => e = .returned (.tuple #[conZ, .int .i64 7]) ∧ Below w.heap.size w w' := by
  have bel := Below.refl w.heap.size w
  have hnm := fun W => named_any l W hl hlen
  rw [hn] at hnm
  refine Calls.start 43 Tryz.func13 rfl rfl rfl ?_
  refine Cd.seq ?_
  refine Cd.region ?_
  refine Seq.alloc rfl (run_zero zero_event_Contract) rfl rfl rfl ?_
  intro g4 w1 n4
  have e4 := Nat.le_trans bel.size n4.ge
  replace bel := bel.step n4.below
  have k4 := n4.blk
  refine Seq.val (Runs.assign rfl rfl) rfl rfl rfl ?_
  refine Seq.nil ?_
  refine Post.weak (F' := [(0, _), (1, _), (4, _), (5, _)]) ⟨rfl, rfl, rfl, rfl, trivial⟩ ?_
  refine Post.then_ ?_
  refine Cd.seq ?_
  refine Cd.seq ?_
  refine Cd.region ?_
  refine Seq.val (Runs.move rfl rfl) rfl rfl rfl ?_
  refine Seq.call (Enters.func rfl rfl rfl (run_enter Tryz.func35 (by kernel_rfl) rfl)) rfl rfl rfl (hnm _) ?_
  rintro e w3 ⟨rfl, hb3⟩
  refine ⟨_, rfl, ?_⟩
  replace bel := bel.step hb3
  replace k4 := k4.step hb3
  refine Seq.val (Runs.not rfl rfl) rfl rfl rfl ?_
  refine Seq.val (Runs.move rfl rfl) rfl rfl rfl ?_
  refine SeqC.start ?_
  refine SeqC.open rfl rfl rfl rfl rfl rfl rfl (fun hcx => Runs.move rfl rfl) ?_
  refine SeqC.next rfl rfl rfl rfl rfl rfl rfl (fun hcx => Runs.neqP rfl rfl rfl Tryz.underlying36) ?_
  refine SeqC.and rfl rfl rfl rfl rfl rfl rfl ?_
  refine Seq.nil ?_
  refine Post.weak (F' := [(0, _), (1, _), (4, _), (5, _), (16, _)]) ⟨rfl, rfl, rfl, rfl, rfl, trivial⟩ ?_
  refine Post.then_ ?_
  refine Cd.condT rfl (by simp) ?_
  refine Cd.seq ?_
  refine Cd.region ?_
  refine Seq.val (Runs.build rfl rfl (run_build_con _)) rfl rfl rfl ?_
  refine Seq.storeN rfl rfl rfl rfl (m := 8) (by kernel_rfl) rfl (by repeat' first | exact trivial | apply And.intro | rfl | assumption) k4 (by simp [Value.cells]) rfl rfl ?_
  intro w2 pw2
  replace bel := bel.put k4 pw2 e4
  replace k4 := pw2.blk
  refine Seq.val (Runs.assign rfl rfl) rfl rfl rfl ?_
  refine Seq.nil ?_
  refine Post.weak (F' := [(0, _), (1, _), (4, _), (5, _), (16, _)]) ⟨rfl, rfl, rfl, rfl, rfl, trivial⟩ ?_
  refine Post.then_ ?_
  refine Cd.ret ?_
  refine Post.then_ret ?_
  refine Post.endC2 rfl rfl rfl k4 Tryz.underlying48 rfl (m := 8) (by kernel_rfl) rfl (.inl rfl) ?_
  exact ⟨rfl, bel⟩
theorem filed_bad (G : Nat) (l : List Nat) (hl : ∀ x ∈ l, x < 256) (hlen : l.length ≤ 9223372036854775807) (hn : namedB l = false) (w : World) :
    Calls Tryz.prog 14 #[.pointer (some ⟨G, 0, none⟩), .string (strOf l)] w fun e w' => e = .returned (.tuple #[conZ, .int .i64 7]) ∧ Below w.heap.size w w' := by
  have bel := Below.refl w.heap.size w
  have hnm := fun W => named_any l W hl hlen
  rw [hn] at hnm
  refine Calls.start 20 Tryz.func14 rfl rfl rfl ?_
  refine Cd.seq ?_
  refine Cd.region ?_
  refine Seq.alloc rfl (run_zero zero_event_Contract) rfl rfl rfl ?_
  intro g4 w1 n4
  have e4 := Nat.le_trans bel.size n4.ge
  replace bel := bel.step n4.below
  have k4 := n4.blk
  refine Seq.val (Runs.assign rfl rfl) rfl rfl rfl ?_
  refine Seq.nil ?_
  refine Post.weak (F' := [(0, _), (1, _), (4, _), (5, _)]) ⟨rfl, rfl, rfl, rfl, trivial⟩ ?_
  refine Post.then_ ?_
  refine Cd.seq ?_
  refine Cd.seq ?_
  refine Cd.region ?_
  refine Seq.val (Runs.move rfl rfl) rfl rfl rfl ?_
  refine Seq.call (Enters.func rfl rfl rfl (run_enter Tryz.func35 (by kernel_rfl) rfl)) rfl rfl rfl (hnm _) ?_
  rintro e w3 ⟨rfl, hb3⟩
  refine ⟨_, rfl, ?_⟩
  replace bel := bel.step hb3
  replace k4 := k4.step hb3
  refine Seq.val (Runs.not rfl rfl) rfl rfl rfl ?_
  refine Seq.val (Runs.move rfl rfl) rfl rfl rfl ?_
  refine SeqC.start ?_
  refine SeqC.open rfl rfl rfl rfl rfl rfl rfl (fun hcx => Runs.move rfl rfl) ?_
  refine SeqC.next rfl rfl rfl rfl rfl rfl rfl (fun hcx => Runs.neqP rfl rfl rfl Tryz.underlying36) ?_
  refine SeqC.and rfl rfl rfl rfl rfl rfl rfl ?_
  refine Seq.nil ?_
  refine Post.weak (F' := [(0, _), (1, _), (4, _), (5, _), (12, _)]) ⟨rfl, rfl, rfl, rfl, rfl, trivial⟩ ?_
  refine Post.then_ ?_
  refine Cd.condT rfl (by simp) ?_
  refine Cd.seq ?_
  refine Cd.region ?_
  refine Seq.val (Runs.build rfl rfl (run_build_con _)) rfl rfl rfl ?_
  refine Seq.storeN rfl rfl rfl rfl (m := 8) (by kernel_rfl) rfl (by repeat' first | exact trivial | apply And.intro | rfl | assumption) k4 (by simp [Value.cells]) rfl rfl ?_
  intro w2 pw2
  replace bel := bel.put k4 pw2 e4
  replace k4 := pw2.blk
  refine Seq.val (Runs.assign rfl rfl) rfl rfl rfl ?_
  refine Seq.nil ?_
  refine Post.weak (F' := [(0, _), (1, _), (4, _), (5, _), (12, _)]) ⟨rfl, rfl, rfl, rfl, rfl, trivial⟩ ?_
  refine Post.then_ ?_
  refine Cd.ret ?_
  refine Post.then_ret ?_
  refine Post.endC2 rfl rfl rfl k4 Tryz.underlying48 rfl (m := 8) (by kernel_rfl) rfl (.inl rfl) ?_
  exact ⟨rfl, bel⟩
theorem named_key {l : List Nat} (hl : ∀ x ∈ l, x < 256) (hn : namedB l = true) : l.length ≤ 16 ∧ ∀ x ∈ l, x ≠ 0 := by
  unfold namedB at hn
  simp only [Bool.and_eq_true, decide_eq_true_eq] at hn
  obtain ⟨⟨⟨h1, h2⟩, h3⟩, h4⟩ := hn
  refine ⟨h2, fun x hx h0 => ?_⟩
  obtain ⟨i, hi, rfl⟩ := List.getElem_of_mem hx
  have := runN_upto partB l i (by omega) (l[i]) (List.getElem?_eq_getElem hi)
  rw [h0, h4] at this
  exact absurd (this.2 hi) (by decide)
theorem keyOkC {l : List Nat} (hl : ∀ x ∈ l, x < 256) (hn : namedB l = true) : KeyOk (kC l) := by
  obtain ⟨h1, h2⟩ := named_key hl hn
  unfold kC
  refine ⟨fun x hx => ?_, fun x hx => ?_, by simp, by simp; omega⟩ <;> simp at hx <;> rcases hx with rfl | rfl | hx <;> first | omega | exact hl x hx | exact h2 x hx
theorem keyOkF {l : List Nat} (hl : ∀ x ∈ l, x < 256) (hn : namedB l = true) : KeyOk (kF l) := by
  obtain ⟨h1, h2⟩ := named_key hl hn
  unfold kF
  refine ⟨fun x hx => ?_, fun x hx => ?_, by simp, by simp; omega⟩ <;> simp at hx <;> rcases hx with rfl | rfl | hx <;> first | omega | exact hl x hx | exact h2 x hx
/-- The runs of Contract. -/
structure FulOk (S : RI.St) (l : List Nat) : Prop where
  c1 : ConOk (more S 48) (kC l)
  back1 : (nextK (more S 48) (kC l)).h.get S.nx = some (.row 48 0 0 0 .lf)
  c2 : ConOk (nextK (more S 48) (kC l)) (kF l)
  back : (nextK (nextK (more S 48) (kC l)) (kF l)).h.get S.nx = some (.row 48 0 0 0 .lf)
noncomputable def nextF (S : RI.St) (l : List Nat) : RI.St := nextK (nextK (more S 48) (kC l)) (kF l)
set_option maxHeartbeats 2000000 in
theorem contract_any {w0 w : World} {y : Value} (nb : Nb w0) {S : RI.St} {L : RI.Loc} {l : List Nat} {G B sG sB : Nat} (hat : At w0 y S w L) (hG : L 156 0 = some (G, 0, sG)) (hB : L 144 0 = some (B, 0, sB)) (ok : FulOk S l) (hl : ∀ x ∈ l, x < 256) (hn : namedB l = true) :
    Calls Tryz.prog 13 #[.pointer (some ⟨G, 0, none⟩), .string (strOf l)] w fun e w' => ∃ L', e = .returned (.tuple #[conZ, .int .i64 7]) ∧ L.le L' ∧ At w0 y (nextF S l) w' L' := by
  have bel := Below.refl w.heap.size w
  have hk1 := keyOkC hl hn
  have hk2 := keyOkF hl hn
  have hlen := (named_key hl hn).1
  have hnm := fun W => named_any l W hl (by omega)
  rw [hn] at hnm
  refine Calls.start 43 Tryz.func13 rfl rfl rfl ?_
  refine Cd.seq ?_
  refine Cd.region ?_
  refine Seq.alloc rfl (run_zero zero_event_Contract) rfl rfl rfl ?_
  intro g4 w1 n4
  have e4 := Nat.le_trans bel.size n4.ge
  replace bel := bel.step n4.below
  have k4 := n4.blk
  refine Seq.val (Runs.assign rfl rfl) rfl rfl rfl ?_
  refine Seq.nil ?_
  refine Post.weak (F' := [(0, _), (1, _), (4, _), (5, _)]) ⟨rfl, rfl, rfl, rfl, trivial⟩ ?_
  refine Post.then_ ?_
  refine Cd.seq ?_
  refine Cd.seq ?_
  refine Cd.region ?_
  refine Seq.val (Runs.move rfl rfl) rfl rfl rfl ?_
  obtain ⟨hle1, hat1⟩ := hat.adopt n4
  have hc4 : (L.put S.nx 0 (g4, 0, 8)) S.nx 0 = some (g4, 0, 8) := RI.Loc.put_self _ _ _ _
  refine Seq.call (Enters.func rfl rfl rfl (run_enter Tryz.func35 (by kernel_rfl) rfl)) rfl rfl rfl (hnm _) ?_
  rintro e w3 ⟨rfl, hb3⟩
  refine ⟨_, rfl, ?_⟩
  replace hat1 := hat1.grow hb3
  replace bel := bel.step hb3
  replace k4 := k4.step hb3
  refine Seq.val (Runs.not rfl rfl) rfl rfl rfl ?_
  refine Seq.val (Runs.move rfl rfl) rfl rfl rfl ?_
  refine SeqC.start ?_
  refine SeqC.open rfl rfl rfl rfl rfl rfl rfl (fun hcx => Runs.move rfl rfl) ?_
  refine SeqC.next rfl rfl rfl rfl rfl rfl rfl (fun hcx => Runs.neqP rfl rfl rfl Tryz.underlying36) ?_
  refine SeqC.and rfl rfl rfl rfl rfl rfl rfl ?_
  refine Seq.nil ?_
  refine Post.weak (F' := [(0, _), (1, _), (4, _), (5, _), (16, _)]) ⟨rfl, rfl, rfl, rfl, rfl, trivial⟩ ?_
  refine Post.then_ ?_
  refine Cd.condF rfl (by simp) ?_
  refine Cd.skip ?_
  refine Post.then_ ?_
  refine Cd.seq ?_
  refine Cd.region ?_
  refine Seq.val (Runs.move rfl rfl) rfl rfl rfl ?_
  refine Seq.val (Runs.move rfl rfl) rfl rfl rfl ?_
  refine Seq.call (Enters.func rfl rfl rfl (run_enter Tryz.func52 (by kernel_rfl) rfl)) rfl rfl rfl (keyC_any l (by omega) _) ?_
  rintro e w4 ⟨rfl, rfl⟩
  refine ⟨_, rfl, ?_⟩
  refine Seq.call (Enters.func rfl rfl rfl (run_enter Tryz.func51 (by kernel_rfl) rfl)) rfl rfl rfl (contract_none nb hat1 (hle1 _ _ _ hG) (hle1 _ _ _ hB) ok.c1 hk1) ?_
  rintro e w5 ⟨L5, rfl, hl5, hat5⟩
  refine ⟨_, rfl, ?_⟩
  clear k4 bel
  have bel := Below.refl w5.heap.size w5
  obtain ⟨C4, k4, hs4, hg4⟩ := hat5.blk0 ok.back1 (hl5 _ _ _ hc4)
  refine Seq.val (Runs.move rfl rfl) rfl rfl rfl ?_
  refine Seq.val (Runs.extract rfl rfl rfl) rfl rfl rfl ?_
  refine Seq.val (Runs.extract rfl rfl rfl) rfl rfl rfl ?_
  refine Seq.alloc rfl (run_zero zero_event_Contract) rfl rfl rfl ?_
  intro g6 w2 n6
  have e6 := Nat.le_trans bel.size n6.ge
  have l6 := Nat.lt_of_lt_of_le k4.lt n6.ge
  replace bel := bel.step n6.below
  replace k4 := k4.step n6.below
  have k6 := n6.blk
  refine Seq.storeN rfl rfl rfl rfl (m := 8) (by kernel_rfl) rfl (by repeat' first | exact trivial | apply And.intro | rfl | assumption) k6 (by simp [Value.cells]) rfl rfl ?_
  intro w3 pw3
  replace bel := bel.put k6 pw3 e6
  replace k4 := k4.put pw3 (by omega)
  replace k6 := pw3.blk
  refine Seq.val (Runs.assign rfl rfl) rfl rfl rfl ?_
  refine Seq.nil ?_
  refine Post.weak (F' := [(0, _), (1, _), (4, _), (5, _), (6, _), (7, _), (16, _)]) ⟨rfl, rfl, rfl, rfl, rfl, rfl, rfl, trivial⟩ ?_
  refine Post.then_ ?_
  refine Cd.seq ?_
  refine Cd.seq ?_
  refine Cd.region ?_
  refine Seq.val (Runs.move rfl rfl) rfl rfl rfl ?_
  refine Seq.val (Runs.neqI rfl rfl rfl) rfl rfl rfl ?_
  refine Seq.nil ?_
  refine Post.weak (F' := [(0, _), (1, _), (4, _), (5, _), (6, _), (7, _), (16, _), (26, _)]) ⟨rfl, rfl, rfl, rfl, rfl, rfl, rfl, rfl, trivial⟩ ?_
  refine Post.then_ ?_
  refine Cd.condF rfl (by simp) ?_
  refine Cd.skip ?_
  refine Post.then_ ?_
  refine Cd.seq ?_
  refine Cd.seq ?_
  refine Cd.region ?_
  refine Seq.val (Runs.move rfl rfl) rfl rfl rfl ?_
  refine Seq.val (Runs.move rfl rfl) rfl rfl rfl ?_
  refine Seq.call (Enters.func rfl rfl rfl (run_enter Tryz.func53 (by kernel_rfl) rfl)) rfl rfl rfl (keyF_any l (by omega) _) ?_
  rintro e w6 ⟨rfl, rfl⟩
  refine ⟨_, rfl, ?_⟩
  have hat6 := hat5.grow bel
  refine Seq.call (Enters.func rfl rfl rfl (run_enter Tryz.func51 (by kernel_rfl) rfl)) rfl rfl rfl (contract_none nb hat6 (hl5 _ _ _ (hle1 _ _ _ hG)) (hl5 _ _ _ (hle1 _ _ _ hB)) ok.c2 hk2) ?_
  rintro e w7 ⟨L7, rfl, hl7, hat7⟩
  refine ⟨_, rfl, ?_⟩
  clear k4 bel k6
  have bel := Below.refl w7.heap.size w7
  obtain ⟨C4, k4, hs4, hg4⟩ := hat7.blk0 ok.back (hl7 _ _ _ (hl5 _ _ _ hc4))
  obtain ⟨c0, c1, c2, c3, c4, c5, c6, c7, rfl⟩ := arr8 hs4
  refine Seq.val (Runs.move rfl rfl) rfl rfl rfl ?_
  refine Seq.val (Runs.extract rfl rfl rfl) rfl rfl rfl ?_
  refine Seq.val (Runs.extract rfl rfl rfl) rfl rfl rfl ?_
  refine Seq.alloc rfl (run_zero zero_event_Contract) rfl rfl rfl ?_
  intro g8 w4 n8
  have e8 := Nat.le_trans bel.size n8.ge
  have l8 := Nat.lt_of_lt_of_le k4.lt n8.ge
  replace bel := bel.step n8.below
  replace k4 := k4.step n8.below
  have k8 := n8.blk
  refine Seq.storeN rfl rfl rfl rfl (m := 8) (by kernel_rfl) rfl (by repeat' first | exact trivial | apply And.intro | rfl | assumption) k8 (by simp [Value.cells]) rfl rfl ?_
  intro w5 pw5
  replace bel := bel.put k8 pw5 e8
  replace k4 := k4.put pw5 (by omega)
  replace k8 := pw5.blk
  refine Seq.val (Runs.assign rfl rfl) rfl rfl rfl ?_
  refine Seq.nil ?_
  refine Post.weak (F' := [(0, _), (1, _), (4, _), (5, _), (6, _), (7, _), (9, _), (16, _), (26, _)]) ⟨rfl, rfl, rfl, rfl, rfl, rfl, rfl, rfl, rfl, trivial⟩ ?_
  refine Post.then_ ?_
  refine Cd.seq ?_
  refine Cd.region ?_
  refine Seq.val (Runs.move rfl rfl) rfl rfl rfl ?_
  refine Seq.val (Runs.neqI rfl rfl rfl) rfl rfl rfl ?_
  refine Seq.nil ?_
  refine Post.weak (F' := [(0, _), (1, _), (4, _), (5, _), (6, _), (7, _), (9, _), (16, _), (26, _), (37, _)]) ⟨rfl, rfl, rfl, rfl, rfl, rfl, rfl, rfl, rfl, rfl, trivial⟩ ?_
  refine Post.then_ ?_
  refine Cd.condF rfl (by simp) ?_
  have hat8 := hat7.grow bel
  refine Cd.skip ?_
  refine Post.then_ ?_
  refine Cd.seq ?_
  refine Cd.region ?_
  refine Seq.val (Runs.build rfl rfl (run_build_con _)) rfl rfl rfl ?_
  refine Seq.storeN rfl rfl rfl rfl (m := 8) (by kernel_rfl) rfl (by repeat' first | exact trivial | apply And.intro | rfl | assumption) k4 (by simp [Value.cells]) rfl rfl ?_
  intro w6 pw6
  replace k4 := pw6.blk
  refine Seq.val (Runs.assign rfl rfl) rfl rfl rfl ?_
  refine Seq.nil ?_
  refine Post.weak (F' := [(0, _), (1, _), (4, _), (5, _), (6, _), (7, _), (9, _), (16, _), (26, _), (37, _)]) ⟨rfl, rfl, rfl, rfl, rfl, rfl, rfl, rfl, rfl, rfl, trivial⟩ ?_
  refine Post.then_ ?_
  refine Cd.ret ?_
  refine Post.endC2 rfl rfl rfl k4 Tryz.underlying48 rfl (m := 8) (by kernel_rfl) rfl (.inl rfl) ?_
  exact ⟨L7, rfl, fun b g x h => hl7 _ _ _ (hl5 _ _ _ (hle1 _ _ _ h)), hat8.putB ok.back (hl7 _ _ _ (hl5 _ _ _ hc4)) pw6 rfl⟩
/-- The runs of Filed. -/
structure FilOk (S : RI.St) (l : List Nat) : Prop where
  c1 : ConOk (more S 48) (kF l)
  back : (nextK (more S 48) (kF l)).h.get S.nx = some (.row 48 0 0 0 .lf)
noncomputable def nextG (S : RI.St) (l : List Nat) : RI.St := nextK (more S 48) (kF l)
set_option maxHeartbeats 2000000 in
theorem filed_any {w0 w : World} {y : Value} (nb : Nb w0) {S : RI.St} {L : RI.Loc} {l : List Nat} {G B sG sB : Nat} (hat : At w0 y S w L) (hG : L 156 0 = some (G, 0, sG)) (hB : L 144 0 = some (B, 0, sB)) (ok : FilOk S l) (hl : ∀ x ∈ l, x < 256) (hn : namedB l = true) :
    Calls Tryz.prog 14 #[.pointer (some ⟨G, 0, none⟩), .string (strOf l)] w fun e w' => ∃ L', e = .returned (.tuple #[conZ, .int .i64 7]) ∧ L.le L' ∧ At w0 y (nextG S l) w' L' := by
  have bel := Below.refl w.heap.size w
  have hk2 := keyOkF hl hn
  have hlen := (named_key hl hn).1
  have hnm := fun W => named_any l W hl (by omega)
  rw [hn] at hnm
  refine Calls.start 20 Tryz.func14 rfl rfl rfl ?_
  refine Cd.seq ?_
  refine Cd.region ?_
  refine Seq.alloc rfl (run_zero zero_event_Contract) rfl rfl rfl ?_
  intro g4 w1 n4
  have e4 := Nat.le_trans bel.size n4.ge
  replace bel := bel.step n4.below
  have k4 := n4.blk
  refine Seq.val (Runs.assign rfl rfl) rfl rfl rfl ?_
  refine Seq.nil ?_
  refine Post.weak (F' := [(0, _), (1, _), (4, _), (5, _)]) ⟨rfl, rfl, rfl, rfl, trivial⟩ ?_
  refine Post.then_ ?_
  refine Cd.seq ?_
  refine Cd.seq ?_
  refine Cd.region ?_
  refine Seq.val (Runs.move rfl rfl) rfl rfl rfl ?_
  obtain ⟨hle1, hat1⟩ := hat.adopt n4
  have hc4 : (L.put S.nx 0 (g4, 0, 8)) S.nx 0 = some (g4, 0, 8) := RI.Loc.put_self _ _ _ _
  refine Seq.call (Enters.func rfl rfl rfl (run_enter Tryz.func35 (by kernel_rfl) rfl)) rfl rfl rfl (hnm _) ?_
  rintro e w3 ⟨rfl, hb3⟩
  refine ⟨_, rfl, ?_⟩
  replace hat1 := hat1.grow hb3
  replace bel := bel.step hb3
  replace k4 := k4.step hb3
  refine Seq.val (Runs.not rfl rfl) rfl rfl rfl ?_
  refine Seq.val (Runs.move rfl rfl) rfl rfl rfl ?_
  refine SeqC.start ?_
  refine SeqC.open rfl rfl rfl rfl rfl rfl rfl (fun hcx => Runs.move rfl rfl) ?_
  refine SeqC.next rfl rfl rfl rfl rfl rfl rfl (fun hcx => Runs.neqP rfl rfl rfl Tryz.underlying36) ?_
  refine SeqC.and rfl rfl rfl rfl rfl rfl rfl ?_
  refine Seq.nil ?_
  refine Post.weak (F' := [(0, _), (1, _), (4, _), (5, _), (12, _)]) ⟨rfl, rfl, rfl, rfl, rfl, trivial⟩ ?_
  refine Post.then_ ?_
  refine Cd.condF rfl (by simp) ?_
  refine Cd.skip ?_
  refine Post.then_ ?_
  refine Cd.seq ?_
  refine Cd.region ?_
  refine Seq.val (Runs.move rfl rfl) rfl rfl rfl ?_
  refine Seq.val (Runs.move rfl rfl) rfl rfl rfl ?_
  refine Seq.call (Enters.func rfl rfl rfl (run_enter Tryz.func53 (by kernel_rfl) rfl)) rfl rfl rfl (keyF_any l (by omega) _) ?_
  rintro e w4 ⟨rfl, rfl⟩
  refine ⟨_, rfl, ?_⟩
  refine Seq.call (Enters.func rfl rfl rfl (run_enter Tryz.func51 (by kernel_rfl) rfl)) rfl rfl rfl (contract_none nb hat1 (hle1 _ _ _ hG) (hle1 _ _ _ hB) ok.c1 hk2) ?_
  rintro e w5 ⟨L5, rfl, hl5, hat5⟩
  refine ⟨_, rfl, ?_⟩
  clear k4 bel
  obtain ⟨C4, k4, hs4, hg4⟩ := hat5.blk0 ok.back (hl5 _ _ _ hc4)
  obtain ⟨c0, c1, c2, c3, c4, c5, c6, c7, rfl⟩ := arr8 hs4
  refine Seq.val (Runs.extract rfl rfl rfl) rfl rfl rfl ?_
  refine Seq.val (Runs.extract rfl rfl rfl) rfl rfl rfl ?_
  refine Seq.storeN rfl rfl rfl rfl (m := 8) (by kernel_rfl) rfl (by repeat' first | exact trivial | apply And.intro | rfl | assumption) k4 (by simp [Value.cells]) rfl rfl ?_
  intro w2 pw2
  replace k4 := pw2.blk
  refine Seq.val (Runs.assign rfl rfl) rfl rfl rfl ?_
  refine Seq.nil ?_
  refine Post.weak (F' := [(0, _), (1, _), (4, _), (5, _), (12, _)]) ⟨rfl, rfl, rfl, rfl, rfl, trivial⟩ ?_
  refine Post.then_ ?_
  refine Cd.ret ?_
  refine Post.endC2 rfl rfl rfl k4 Tryz.underlying48 rfl (m := 8) (by kernel_rfl) rfl (.inl rfl) ?_
  exact ⟨L5, rfl, fun b g x h => hl5 _ _ _ (hle1 _ _ _ h), hat5.putB ok.back (hl5 _ _ _ hc4) pw2 rfl⟩
end Go.Proofs.YtenikchlnfhikaaGreatDoor

namespace Go.Proofs.YtenikchlnfhikaaGreatDoor
open Go Go.RowKit

noncomputable abbrev askV (a : As) : RI.V := .agg [.int .i64 a.k, .str a.r, .str a.i, .str a.x, .str a.y, .str a.t, .int .i64 a.d, .int .i64 a.p, .int .i64 a.wh, .int .i64 a.n]
theorem rv_askV {ρ : RI.Env} {L : RI.Loc} {a : As} (h : a.byt) : RI.RV ρ L (askV a) a.v :=
  .agg (.cons (.int _ _) (.cons (rv_of h.r) (.cons (rv_of h.i) (.cons (rv_of h.x) (.cons (rv_of h.y) (.cons (rv_of h.t) (.cons (.int _ _) (.cons (.int _ _) (.cons (.int _ _) (.cons (.int _ _) .nil))))))))))
noncomputable abbrev conV : RI.V := .agg [.str [], .str [], .str [], .str [], .int .i64 0, .int .i64 0, .int .i64 0, .sl none 0 0]
theorem rv_conZ {ρ : RI.Env} {L : RI.Loc} {x : Value} (h : RI.RV ρ L conV x) : x = conZ := by
  cases h with
  | agg hh =>
    rcases hh with _ | ⟨h0, hh⟩
    rcases hh with _ | ⟨h1, hh⟩
    rcases hh with _ | ⟨h2, hh⟩
    rcases hh with _ | ⟨h3, hh⟩
    rcases hh with _ | ⟨h4, hh⟩
    rcases hh with _ | ⟨h5, hh⟩
    rcases hh with _ | ⟨h6, hh⟩
    rcases hh with _ | ⟨h7, hh⟩
    cases hh
    rw [rv_str h0, rv_str h1, rv_str h2, rv_str h3, rv_int h4, rv_int h5, rv_int h6]
    cases h7
    rfl
theorem rv_nil {ρ : RI.Env} {L : RI.Loc} {x : Value} (h : RI.RV ρ L (.sl none 0 0) x) : x = .slice none 0 0 := by cases h; rfl
theorem rv_nilP {ρ : RI.Env} {L : RI.Loc} {x : Value} (h : RI.RV ρ L (.ptr none) x) : x = .pointer none := by cases h; rfl
section
set_option maxRecDepth 1000000
theorem run_nilOpen : isV (.tup [.ptr none, .int .i64 1]) (runO 10 [.ptr none, vCfg] ⟨.lf, 0⟩) = true := by kernel_rfl
theorem run_nilDo (a : As) : isV (.tup [.sl none 0 0, .int .i64 1]) (runO 12 [.ptr none, askV a] ⟨.lf, 0⟩) = true := by kernel_rfl
theorem run_nilIds : isV (.tup [.sl none 0 0, .int .i64 1]) (runO 15 [.ptr none] ⟨.lf, 0⟩) = true := by kernel_rfl
theorem run_nilBal (x y : List Nat) : isV (.tup [.int .i64 0, .int .i64 1]) (runO 16 [.ptr none, .str x, .str y] ⟨.lf, 0⟩) = true := by kernel_rfl
theorem run_nilBooks : isV (.tup [.sl none 0 0, .int .i64 1]) (runO 17 [.ptr none] ⟨.lf, 0⟩) = true := by kernel_rfl
theorem run_nilEv (n m : Int) : isV (.tup [.sl none 0 0, .int .i64 1]) (runO 18 [.ptr none, .int .i64 n, .int .i64 m] ⟨.lf, 0⟩) = true := by kernel_rfl
theorem run_nilDay : isV (.int .i64 0) (runO 19 [.ptr none] ⟨.lf, 0⟩) = true := by kernel_rfl
theorem run_nilCount : isV (.int .i64 0) (runO 20 [.ptr none] ⟨.lf, 0⟩) = true := by kernel_rfl
theorem run_nilAudit : isV (.int .i64 1) (runO 21 [.ptr none] ⟨.lf, 0⟩) = true := by kernel_rfl
theorem run_nilStore : isV (.ptr none) (runO 22 [.ptr none] ⟨.lf, 0⟩) = true := by kernel_rfl
theorem run_nilCon (l : List Nat) : isV (.tup [conV, .int .i64 1]) (runO 51 [.ptr none, .str l] ⟨.lf, 0⟩) = true := by kernel_rfl
end
/-- A closed call whose value is read off. -/
theorem runs_val (w : World) (nb : Nb w) {f : FuncId} {l : List RI.V} {xs : List Value} (hl : ∀ y, RI.RVs (ρx y) (fun _ _ => none) l xs) {v : RI.V} {u : Value} (hv : isV v (runO f l ⟨.lf, 0⟩) = true) (hu : ∀ (ρ : RI.Env) (L : RI.Loc) (x : Value), RI.RV ρ L v x → x = u) (hen : (callFunc f xs.toArray).run Tryz.prog w = .ok (.enter f xs.toArray) w) :
    Calls Tryz.prog f xs.toArray w fun e w' => e = .returned u ∧ Below w.heap.size w w' :=
  (runs_one w nb hl hv hen).mono fun e w' ⟨x, L', y, h1, h2, h3⟩ => by
    rw [hu _ _ _ h2] at h1
    exact ⟨h1, h3⟩
theorem rv_two {a b : RI.V} {x y : Value} (ha : ∀ (ρ : RI.Env) (L : RI.Loc) (u : Value), RI.RV ρ L a u → u = x) (hb : ∀ (ρ : RI.Env) (L : RI.Loc) (u : Value), RI.RV ρ L b u → u = y) : ∀ (ρ : RI.Env) (L : RI.Loc) (u : Value), RI.RV ρ L (.tup [a, b]) u → u = .tuple #[x, y] := fun ρ L u h => by
  obtain ⟨p, q, rfl, h1, h2⟩ := rv_tup2 h
  rw [ha _ _ _ h1, hb _ _ _ h2]
/-- What the cfg function gives. -/
theorem cfg_any (w : World) (nb : Nb w) : Calls Tryz.prog 11 #[] w fun e w' => e = .returned (.agg #[.int .i64 2, .int .i64 4000, .int .i64 2, .int .i64 1000]) ∧ Below w.heap.size w w' :=
  runs_val w nb (l := []) (xs := []) (fun _ => .nil) (v := vCfg) (by kernel_rfl) (fun ρ L x h => by
    cases h with
    | agg hh =>
      rcases hh with _ | ⟨h0, hh⟩
      rcases hh with _ | ⟨h1, hh⟩
      rcases hh with _ | ⟨h2, hh⟩
      rcases hh with _ | ⟨h3, hh⟩
      cases hh
      rw [rv_int h0, rv_int h1, rv_int h2, rv_int h3]) (RI.run_enter Tryz.func11 (by kernel_rfl) rfl _ _)
theorem con_nil (l : List Nat) (hl : ∀ x ∈ l, x < 256) (w : World) (nb : Nb w) : Calls Tryz.prog 51 #[.pointer none, .string (strOf l)] w fun e w' => e = .returned (.tuple #[conZ, .int .i64 1]) ∧ Below w.heap.size w w' :=
  runs_val w nb (l := [.ptr none, .str l]) (xs := [.pointer none, .string (strOf l)]) (fun _ => .cons .ptr0 (.cons (rv_of hl) .nil)) (run_nilCon l) (rv_two (fun _ _ _ h => rv_conZ h) (fun _ _ _ h => rv_int h)) (RI.run_enter Tryz.func51 (by kernel_rfl) rfl _ _)
theorem contract_nil (l : List Nat) (hl : ∀ x ∈ l, x < 256) (hlen : l.length ≤ 100) (w : World) (hg : Nb w) : Calls Tryz.prog 13 #[.pointer none, .string (strOf l)] w fun e w' => e = .returned (.tuple #[conZ, .int .i64 1]) ∧ Below w.heap.size w w' := by
  have bel := Below.refl w.heap.size w
  have nb := hg
  have hkb : ∀ x ∈ kC l, x < 256 := fun x hx => by
    unfold kC at hx
    simp at hx
    rcases hx with rfl | rfl | hx <;> first | omega | exact hl x hx
  have hnm := fun W => named_any l W hl (by omega)
  refine Calls.start 43 Tryz.func13 rfl rfl rfl ?_
  refine Cd.seq ?_
  refine Cd.region ?_
  refine Seq.alloc rfl (run_zero zero_event_Contract) rfl rfl rfl ?_
  intro g4 w1 n4
  have e4 := Nat.le_trans bel.size n4.ge
  replace bel := bel.step n4.below
  replace nb := nb.step n4.below
  have k4 := n4.blk
  refine Seq.val (Runs.assign rfl rfl) rfl rfl rfl ?_
  refine Seq.nil ?_
  refine Post.weak (F' := [(0, _), (1, _), (4, _), (5, _)]) ⟨rfl, rfl, rfl, rfl, trivial⟩ ?_
  refine Post.then_ ?_
  refine Cd.seq ?_
  refine Cd.seq ?_
  refine Cd.region ?_
  refine Seq.val (Runs.move rfl rfl) rfl rfl rfl ?_
  refine Seq.call (Enters.func rfl rfl rfl (run_enter Tryz.func35 (by kernel_rfl) rfl)) rfl rfl rfl (hnm _) ?_
  rintro e w3 ⟨rfl, hb3⟩
  refine ⟨_, rfl, ?_⟩
  replace bel := bel.step hb3
  replace nb := nb.step hb3
  replace k4 := k4.step hb3
  refine Seq.val (Runs.not rfl rfl) rfl rfl rfl ?_
  refine Seq.val (Runs.move rfl rfl) rfl rfl rfl ?_
  refine SeqC.start ?_
  refine SeqC.open rfl rfl rfl rfl rfl rfl rfl (fun hcx => Runs.move rfl rfl) ?_
  refine SeqC.next rfl rfl rfl rfl rfl rfl rfl (fun hcx => Runs.neqP rfl rfl rfl Tryz.underlying36) ?_
  refine SeqC.and rfl rfl rfl rfl rfl rfl rfl ?_
  refine Seq.nil ?_
  refine Post.weak (F' := [(0, _), (1, _), (4, _), (5, _), (16, _)]) ⟨rfl, rfl, rfl, rfl, rfl, trivial⟩ ?_
  refine Post.then_ ?_
  refine Cd.condF rfl (by simp) ?_
  refine Cd.skip ?_
  refine Post.then_ ?_
  refine Cd.seq ?_
  refine Cd.region ?_
  refine Seq.val (Runs.move rfl rfl) rfl rfl rfl ?_
  refine Seq.val (Runs.move rfl rfl) rfl rfl rfl ?_
  refine Seq.call (Enters.func rfl rfl rfl (run_enter Tryz.func52 (by kernel_rfl) rfl)) rfl rfl rfl (keyC_any l (by omega) _) ?_
  rintro e w4 ⟨rfl, rfl⟩
  refine ⟨_, rfl, ?_⟩
  refine Seq.call (Enters.func rfl rfl rfl (run_enter Tryz.func51 (by kernel_rfl) rfl)) rfl rfl rfl (con_nil _ hkb _ nb) ?_
  rintro e w5 ⟨rfl, hb5⟩
  refine ⟨_, rfl, ?_⟩
  replace bel := bel.step hb5
  replace k4 := k4.step hb5
  refine Seq.val (Runs.move rfl rfl) rfl rfl rfl ?_
  refine Seq.val (Runs.extract rfl rfl rfl) rfl rfl rfl ?_
  refine Seq.val (Runs.extract rfl rfl rfl) rfl rfl rfl ?_
  refine Seq.alloc rfl (run_zero zero_event_Contract) rfl rfl rfl ?_
  intro g6 w2 n6
  have e6 := Nat.le_trans bel.size n6.ge
  have l6 := Nat.lt_of_lt_of_le k4.lt n6.ge
  replace bel := bel.step n6.below
  replace k4 := k4.step n6.below
  have k6 := n6.blk
  refine Seq.storeN rfl rfl rfl rfl (m := 8) (by kernel_rfl) rfl (by repeat' first | exact trivial | apply And.intro | rfl | assumption) k6 (by simp [Value.cells]) rfl rfl ?_
  intro w3 pw3
  replace bel := bel.put k6 pw3 e6
  replace k4 := k4.put pw3 (by omega)
  replace k6 := pw3.blk
  refine Seq.val (Runs.assign rfl rfl) rfl rfl rfl ?_
  refine Seq.nil ?_
  refine Post.weak (F' := [(0, _), (1, _), (4, _), (5, _), (6, _), (7, _), (16, _)]) ⟨rfl, rfl, rfl, rfl, rfl, rfl, rfl, trivial⟩ ?_
  refine Post.then_ ?_
  refine Cd.seq ?_
  refine Cd.seq ?_
  refine Cd.region ?_
  refine Seq.val (Runs.move rfl rfl) rfl rfl rfl ?_
  refine Seq.val (Runs.neqI rfl rfl rfl) rfl rfl rfl ?_
  refine Seq.nil ?_
  refine Post.weak (F' := [(0, _), (1, _), (4, _), (5, _), (6, _), (7, _), (16, _), (26, _)]) ⟨rfl, rfl, rfl, rfl, rfl, rfl, rfl, rfl, trivial⟩ ?_
  refine Post.then_ ?_
  refine Cd.condT rfl (by simp) ?_
  refine Cd.seq ?_
  refine Cd.region ?_
  refine Seq.val (Runs.loadW rfl rfl Tryz.underlying48 rfl k6 (m := 8) (by kernel_rfl) rfl) rfl rfl rfl ?_
  refine Seq.val (Runs.move rfl rfl) rfl rfl rfl ?_
  refine Seq.storeN rfl rfl rfl rfl (m := 8) (by kernel_rfl) rfl (by repeat' first | exact trivial | apply And.intro | rfl | assumption) k4 (by simp [Value.cells]) rfl rfl ?_
  intro w4 pw4
  replace bel := bel.put k4 pw4 e4
  replace k6 := k6.put pw4 (by omega)
  replace k4 := pw4.blk
  refine Seq.val (Runs.assign rfl rfl) rfl rfl rfl ?_
  refine Seq.nil ?_
  refine Post.weak (F' := [(0, _), (1, _), (4, _), (5, _), (6, _), (7, _), (16, _), (26, _)]) ⟨rfl, rfl, rfl, rfl, rfl, rfl, rfl, rfl, trivial⟩ ?_
  refine Post.then_ ?_
  refine Cd.ret ?_
  refine Post.then_ret ?_
  refine Post.endC2 rfl rfl rfl k4 Tryz.underlying48 rfl (m := 8) (by kernel_rfl) rfl (.inl rfl) ?_
  exact ⟨rfl, bel⟩
theorem filed_nil (l : List Nat) (hl : ∀ x ∈ l, x < 256) (hlen : l.length ≤ 100) (w : World) (hg : Nb w) : Calls Tryz.prog 14 #[.pointer none, .string (strOf l)] w fun e w' => e = .returned (.tuple #[conZ, .int .i64 1]) ∧ Below w.heap.size w w' := by
  have bel := Below.refl w.heap.size w
  have nb := hg
  have hkb : ∀ x ∈ kF l, x < 256 := fun x hx => by
    unfold kF at hx
    simp at hx
    rcases hx with rfl | rfl | hx <;> first | omega | exact hl x hx
  have hnm := fun W => named_any l W hl (by omega)
  refine Calls.start 20 Tryz.func14 rfl rfl rfl ?_
  refine Cd.seq ?_
  refine Cd.region ?_
  refine Seq.alloc rfl (run_zero zero_event_Contract) rfl rfl rfl ?_
  intro g4 w1 n4
  have e4 := Nat.le_trans bel.size n4.ge
  replace bel := bel.step n4.below
  replace nb := nb.step n4.below
  have k4 := n4.blk
  refine Seq.val (Runs.assign rfl rfl) rfl rfl rfl ?_
  refine Seq.nil ?_
  refine Post.weak (F' := [(0, _), (1, _), (4, _), (5, _)]) ⟨rfl, rfl, rfl, rfl, trivial⟩ ?_
  refine Post.then_ ?_
  refine Cd.seq ?_
  refine Cd.seq ?_
  refine Cd.region ?_
  refine Seq.val (Runs.move rfl rfl) rfl rfl rfl ?_
  refine Seq.call (Enters.func rfl rfl rfl (run_enter Tryz.func35 (by kernel_rfl) rfl)) rfl rfl rfl (hnm _) ?_
  rintro e w3 ⟨rfl, hb3⟩
  refine ⟨_, rfl, ?_⟩
  replace bel := bel.step hb3
  replace nb := nb.step hb3
  replace k4 := k4.step hb3
  refine Seq.val (Runs.not rfl rfl) rfl rfl rfl ?_
  refine Seq.val (Runs.move rfl rfl) rfl rfl rfl ?_
  refine SeqC.start ?_
  refine SeqC.open rfl rfl rfl rfl rfl rfl rfl (fun hcx => Runs.move rfl rfl) ?_
  refine SeqC.next rfl rfl rfl rfl rfl rfl rfl (fun hcx => Runs.neqP rfl rfl rfl Tryz.underlying36) ?_
  refine SeqC.and rfl rfl rfl rfl rfl rfl rfl ?_
  refine Seq.nil ?_
  refine Post.weak (F' := [(0, _), (1, _), (4, _), (5, _), (12, _)]) ⟨rfl, rfl, rfl, rfl, rfl, trivial⟩ ?_
  refine Post.then_ ?_
  refine Cd.condF rfl (by simp) ?_
  refine Cd.skip ?_
  refine Post.then_ ?_
  refine Cd.seq ?_
  refine Cd.region ?_
  refine Seq.val (Runs.move rfl rfl) rfl rfl rfl ?_
  refine Seq.val (Runs.move rfl rfl) rfl rfl rfl ?_
  refine Seq.call (Enters.func rfl rfl rfl (run_enter Tryz.func53 (by kernel_rfl) rfl)) rfl rfl rfl (keyF_any l (by omega) _) ?_
  rintro e w4 ⟨rfl, rfl⟩
  refine ⟨_, rfl, ?_⟩
  refine Seq.call (Enters.func rfl rfl rfl (run_enter Tryz.func51 (by kernel_rfl) rfl)) rfl rfl rfl (con_nil _ hkb _ nb) ?_
  rintro e w5 ⟨rfl, hb5⟩
  refine ⟨_, rfl, ?_⟩
  replace bel := bel.step hb5
  replace k4 := k4.step hb5
  refine Seq.val (Runs.extract rfl rfl rfl) rfl rfl rfl ?_
  refine Seq.val (Runs.extract rfl rfl rfl) rfl rfl rfl ?_
  refine Seq.storeN rfl rfl rfl rfl (m := 8) (by kernel_rfl) rfl (by repeat' first | exact trivial | apply And.intro | rfl | assumption) k4 (by simp [Value.cells]) rfl rfl ?_
  intro w2 pw2
  replace bel := bel.put k4 pw2 e4
  replace k4 := pw2.blk
  refine Seq.val (Runs.assign rfl rfl) rfl rfl rfl ?_
  refine Seq.nil ?_
  refine Post.weak (F' := [(0, _), (1, _), (4, _), (5, _), (12, _)]) ⟨rfl, rfl, rfl, rfl, rfl, trivial⟩ ?_
  refine Post.then_ ?_
  refine Cd.ret ?_
  refine Post.endC2 rfl rfl rfl k4 Tryz.underlying48 rfl (m := 8) (by kernel_rfl) rfl (.inl rfl) ?_
  exact ⟨rfl, bel⟩
end Go.Proofs.YtenikchlnfhikaaGreatDoor

set_option linter.unusedVariables false
namespace Go.Proofs.YtenikchlnfhikaaGreatDoor
open Go Go.RowKit
noncomputable def stB : List (Nat × RI.Ob) := [(0, .map [⟨.str [109, 97, 97, 46, 48, 48, 48, 48, 48, 48, 46, 108, 111, 103], .ptr (some (.own 46 0 0)), 0⟩, ⟨.str [109, 97, 97, 46, 48, 48, 48, 48, 48, 48, 46, 97, 99, 107], .ptr (some (.own 66 0 0)), 1⟩, ⟨.str [67, 85, 82, 82, 69, 78, 84], .ptr (some (.own 94 0 0)), 3⟩] 4), (1, .row 164 8 0 0 (RI.wrT [.int .i64 1048576, .mp (some 0), .int .i64 42, .int .i64 42, .int .i64 8, .bool false, .bool false, .int .i64 0] 0 .lf)), (5, .row 293 9 0 0 (RI.wrT [.ptr (some (.own 1 0 0)), .int .i64 0, .ptr (some (.own 12 0 0)), .int .i64 0, .int .i64 1, .int .i64 0, .sl none 0 0, .int .i64 1, .bool false] 0 .lf)), (12, .row 304 6 0 0 (RI.wrT [.ptr (some (.own 1 0 0)), .str [109, 97, 97], .int .i64 0, .int .i64 1, .int .i64 17, .bool false] 0 .lf)), (46, .row 465 2 0 0 (RI.wrT [.str [0, 0, 0, 5, 219, 95, 150, 125, 1, 2, 1, 0, 0, 102, 168, 69, 103], .int .i64 17] 0 .lf)), (66, .row 465 2 0 0 (RI.wrT [.str [0, 0, 0, 0, 0, 0, 0, 1, 137, 49, 67, 126], .int .i64 12] 0 .lf)), (94, .row 465 2 0 0 (RI.wrT [.str [0, 0, 0, 1, 196, 200, 12, 186, 0, 81, 83, 125, 82], .int .i64 13] 0 .lf)), (113, .row 304 6 0 0 (RI.wrT [.ptr (some (.own 1 0 0)), .str [119], .int .i64 0, .int .i64 0, .int .i64 0, .bool false] 0 .lf)), (128, .map [] 0), (135, .row 313 12 0 0 (RI.wrT [.ptr none, .ptr none, .ptr none, .ptr none, .ptr none, .ptr none, .ptr none, .ptr none, .ptr none, .ptr none, .ptr none, .ptr none] 0 .lf)), (136, .row 316 3 0 0 (RI.wrT [.str [], .str [], .sl (some (.own 135 0 0)) 12 12] 0 .lf)), (137, .row 318 3 0 0 (RI.wrT [.ptr (some (.own 136 0 0)), .int .i64 0, .int .u64 0] 0 .lf)), (138, .row 319 12 0 0 (RI.wrT [.ptr none, .ptr none, .ptr none, .ptr none, .ptr none, .ptr none, .ptr none, .ptr none, .ptr none, .ptr none, .ptr none, .ptr none] 0 .lf)), (139, .row 322 3 0 0 (RI.wrT [.int .i64 0, .int .i64 0, .sl (some (.own 138 0 0)) 12 12] 0 .lf)), (140, .row 324 3 0 0 (RI.wrT [.ptr (some (.own 139 0 0)), .int .i64 0, .int .u64 0] 0 .lf)), (141, .row 327 5 0 0 (RI.wrT [.int .i64 0, .int .i64 0, .ptr none, .ptr (some (.own 141 0 0)), .ptr (some (.own 141 0 0))] 0 .lf)), (142, .map [] 0), (143, .row 330 5 0 0 (RI.wrT [.int .i64 32, .mp (some 142), .ptr (some (.own 141 0 0)), .int .i64 0, .int .i64 0] 0 .lf)), (144, .row 203 13 0 0 (RI.wrT [.ptr (some (.own 1 0 0)), .int .i64 2, .int .i64 4000, .int .i64 2, .int .i64 1000, .ptr (some (.own 5 0 0)), .ptr (some (.own 113 0 0)), .ptr (some (.own 137 0 0)), .int .i64 0, .ptr (some (.own 140 0 0)), .mp (some 128), .ptr (some (.own 143 0 0)), .int .i64 0] 0 .lf)), (156, .row 105 3 0 0 (RI.wrT [.ptr (some (.own 144 0 0)), .int .i64 0, .int .i64 0] 0 .lf)), (173, .row 77 9 0 0 (RI.wrT [.ptr (some (.own 1 0 0)), .ptr (some (.own 156 0 0)), .int .i64 0, .sl none 0 0, .sl none 0 0, .sl none 0 0, .sl none 0 0, .sl none 0 0, .sl none 0 0] 0 .lf))]
noncomputable def stBV : RI.V := .ptr (some (.own 173 0 0))
noncomputable def stBOk (r : RI.Rr) : Bool := RI.an (RI.V.beq r.v stBV) (RI.an (Nat.beq r.s.nx 174) (RI.hasAll r.s stB))
noncomputable abbrev stBS : RI.St := RI.stOf stB 174
noncomputable abbrev rowR : RI.Ob := .row 77 9 0 0 (RI.wrT [.ptr (some (.own 1 0 0)), .ptr (some (.own 156 0 0)), .int .i64 0, .sl none 0 0, .sl none 0 0, .sl none 0 0, .sl none 0 0, .sl none 0 0, .sl none 0 0] 0 .lf)
theorem rowB_S : stBS.h.get 144 = some rowS := by kernel_rfl
theorem rowB_E : stBS.h.get 156 = some rowE := by kernel_rfl
set_option maxRecDepth 1000000 in
theorem run_begin : RI.leafB stBOk [] (runO 23 [.int .i64 1048576] ⟨.lf, 0⟩) = true := by kernel_rfl
end Go.Proofs.YtenikchlnfhikaaGreatDoor

set_option linter.unusedVariables false
namespace Go.Proofs.YtenikchlnfhikaaGreatDoor
open Go Go.RowKit
noncomputable abbrev cT : Nat := 48
set_option maxRecDepth 1000000 in
theorem ful_ok (l : List Nat) : FulOk stBS l :=
  ⟨⟨by kernel_rfl, ⟨by kernel_rfl, by kernel_rfl, by kernel_rfl, by kernel_rfl, by kernel_rfl, by kernel_rfl, by kernel_rfl⟩, by kernel_rfl⟩, by kernel_rfl,
   ⟨by kernel_rfl, ⟨by kernel_rfl, by kernel_rfl, by kernel_rfl, by kernel_rfl, by kernel_rfl, by kernel_rfl, by kernel_rfl⟩, by kernel_rfl⟩, by kernel_rfl⟩
set_option maxRecDepth 1000000 in
theorem ful_okM (l : List Nat) : FulOk (more stBS cT) l :=
  ⟨⟨by kernel_rfl, ⟨by kernel_rfl, by kernel_rfl, by kernel_rfl, by kernel_rfl, by kernel_rfl, by kernel_rfl, by kernel_rfl⟩, by kernel_rfl⟩, by kernel_rfl,
   ⟨by kernel_rfl, ⟨by kernel_rfl, by kernel_rfl, by kernel_rfl, by kernel_rfl, by kernel_rfl, by kernel_rfl, by kernel_rfl⟩, by kernel_rfl⟩, by kernel_rfl⟩
end Go.Proofs.YtenikchlnfhikaaGreatDoor

namespace Go.Proofs.YtenikchlnfhikaaGreatDoor
open Go Go.RowKit

theorem At.wide {w0 w : World} {y : Value} {s : RI.St} {L : RI.Loc} {l : List (Nat × RI.Ob)} {n : Nat} (h : At w0 y s w L) (hh : RI.an (RI.hasAll s l) (Nat.ble s.nx n) = true) : At w0 y (RI.stOf l n) w L := by
  obtain ⟨h1, h2⟩ := RI.an_true hh
  have hn : s.nx ≤ n := Nat.le_of_ble_eq_true h2
  have k := h.rel.lit (nx := s.nx) h1 rfl
  exact ⟨h.es, h.one, k.below, fun b g hb => k.fresh b g (Nat.le_trans hn hb), k.top, fun b hb => ⟨Nat.lt_of_lt_of_le (k.res b hb).1 hn, (k.res b hb).2⟩, k.obj, k.inj⟩
/-- Contract of any id that is short. -/
theorem con_step {w0 w : World} {y : Value} (nb : Nb w0) {S : RI.St} {L : RI.Loc} {l : List Nat} {G B sG sB n : Nat} {ls : List (Nat × RI.Ob)} (hat : At w0 y S w L) (hG : L 156 0 = some (G, 0, sG)) (hB : L 144 0 = some (B, 0, sB)) (hl : ∀ x ∈ l, x < 256) (hlen : l.length ≤ 100) (ok : FulOk S l)
    (h1 : RI.an (RI.hasAll (nextF S l) ls) (Nat.ble (nextF S l).nx n) = true) (h2 : RI.an (RI.hasAll S ls) (Nat.ble S.nx n) = true) :
    Calls Tryz.prog 13 #[.pointer (some ⟨G, 0, none⟩), .string (strOf l)] w fun e w' => e = .returned (.tuple #[conZ, .int .i64 7]) ∧ ∃ L', L.le L' ∧ At w0 y (RI.stOf ls n) w' L' := by
  cases hn : namedB l with
  | true => exact (contract_any nb hat hG hB ok hl hn).mono fun e w' ⟨L', k1, k2, k3⟩ => ⟨k1, L', k2, k3.wide h1⟩
  | false => exact (contract_bad G l hl (by omega) hn w).mono fun e w' ⟨k1, k2⟩ => ⟨k1, L, fun _ _ _ h => h, (hat.grow k2).wide h2⟩
/-- Filed of any id that is short. -/
theorem fil_step {w0 w : World} {y : Value} (nb : Nb w0) {S : RI.St} {L : RI.Loc} {l : List Nat} {G B sG sB n : Nat} {ls : List (Nat × RI.Ob)} (hat : At w0 y S w L) (hG : L 156 0 = some (G, 0, sG)) (hB : L 144 0 = some (B, 0, sB)) (hl : ∀ x ∈ l, x < 256) (hlen : l.length ≤ 100) (ok : FilOk S l)
    (h1 : RI.an (RI.hasAll (nextG S l) ls) (Nat.ble (nextG S l).nx n) = true) (h2 : RI.an (RI.hasAll S ls) (Nat.ble S.nx n) = true) :
    Calls Tryz.prog 14 #[.pointer (some ⟨G, 0, none⟩), .string (strOf l)] w fun e w' => e = .returned (.tuple #[conZ, .int .i64 7]) ∧ ∃ L', L.le L' ∧ At w0 y (RI.stOf ls n) w' L' := by
  cases hn : namedB l with
  | true => exact (filed_any nb hat hG hB ok hl hn).mono fun e w' ⟨L', k1, k2, k3⟩ => ⟨k1, L', k2, k3.wide h1⟩
  | false => exact (filed_bad G l hl (by omega) hn w).mono fun e w' ⟨k1, k2⟩ => ⟨k1, L, fun _ _ _ h => h, (hat.grow k2).wide h2⟩
def evErr (n m : Int) : Int := if n < 0 then 1 else if m < 0 then 1 else 0
set_option maxHeartbeats 1000000 in
/-- Events of an engine that has none. -/
theorem events_new {w0 w : World} {y : Value} (nb : Nb w0) {S : RI.St} {L : RI.Loc} {G sG : Nat} (hat : At w0 y S w L) (hG : L 156 0 = some (G, 0, sG)) (hr : S.h.get 156 = some rowE) (he : isV (.int .i64 0) (runO 45 [p144] S) = true) (n m : Int) :
    Calls Tryz.prog 18 #[.pointer (some ⟨G, 0, none⟩), .int .i64 n, .int .i64 m] w fun e w' => e = .returned (.tuple #[.slice none 0 0, .int .i64 (evErr n m)]) ∧ Below w0.heap.size w0 w' := by
  obtain ⟨-, hc⟩ := hat.row hr hG
  obtain ⟨m0, hm0, hr0⟩ := hc 0 _ (by omega) rfl
  obtain ⟨m2, hm2, hr2⟩ := hc 2 _ (by omega) rfl
  obtain rfl := rv_int hr2
  obtain ⟨a0, rfl, hA0⟩ := rv_ptr hr0
  have hm0' : w.cell? ((⟨G, 0, none⟩ : Addr).add 0) = some (.pointer (some a0)) := by rw [Addr.add_lit]; exact hm0
  have hm2' : w.cell? ((⟨G, 0, none⟩ : Addr).add 2) = some (.int .i64 0) := by rw [Addr.add_lit]; exact hm2
  refine Calls.start 70 Tryz.func18 rfl rfl rfl ?_
  refine Cd.seq ?_
  refine Cd.region ?_
  refine Seq.val (Runs.assign rfl rfl) rfl rfl rfl ?_
  refine Seq.val (Runs.assign rfl rfl) rfl rfl rfl ?_
  refine Seq.nil ?_
  refine Post.weak (F' := [(0, _), (1, _), (2, _), (6, _), (7, _)]) ⟨rfl, rfl, rfl, rfl, rfl, trivial⟩ ?_
  refine Post.then_ ?_
  refine Cd.seq ?_
  refine Cd.seq ?_
  refine Cd.region ?_
  refine Seq.val (Runs.move rfl rfl) rfl rfl rfl ?_
  refine Seq.val (Runs.eqlP rfl rfl rfl Tryz.underlying36) rfl rfl rfl ?_
  refine Seq.val (Runs.move rfl rfl) rfl rfl rfl ?_
  refine SeqC.start ?_
  refine SeqC.open rfl rfl rfl rfl rfl rfl rfl (fun hcx => Runs.move rfl rfl) ?_
  refine SeqC.next rfl rfl rfl rfl rfl rfl rfl (fun hcx => Runs.lss rfl rfl rfl) ?_
  refine SeqC.or rfl rfl rfl rfl rfl rfl rfl ?_
  refine Seq.val (Runs.move rfl rfl) rfl rfl rfl ?_
  refine SeqC.start ?_
  refine SeqC.open rfl rfl rfl rfl rfl rfl rfl (fun hcx => Runs.move rfl rfl) ?_
  refine SeqC.next rfl rfl rfl rfl rfl rfl rfl (fun hcx => Runs.lss rfl rfl rfl) ?_
  refine SeqC.or rfl rfl rfl rfl rfl rfl rfl ?_
  refine Seq.nil ?_
  refine Post.weak (F' := [(0, _), (1, _), (2, _), (6, _), (7, _), (24, _)]) ⟨rfl, rfl, rfl, rfl, rfl, rfl, trivial⟩ ?_
  refine Post.then_ ?_
  refine Cd.cond rfl (fun h => ?_) (fun h => ?_)
  · skip
    have hE : evErr n m = 1 := by
      unfold evErr
      simp at h
      split
      · rfl
      · rw [if_pos (by omega)]
    refine Cd.seq ?_
    refine Cd.region ?_
    refine Seq.val (Runs.assign rfl rfl) rfl rfl rfl ?_
    refine Seq.val (Runs.assign rfl rfl) rfl rfl rfl ?_
    refine Seq.nil ?_
    refine Post.weak (F' := [(0, _), (1, _), (2, _), (6, _), (7, _), (24, _)]) ⟨rfl, rfl, rfl, rfl, rfl, rfl, trivial⟩ ?_
    refine Post.then_ ?_
    refine Cd.ret ?_
    refine Post.then_ret ?_
    refine Post.end2 rfl rfl rfl (.inl rfl) ?_
    exact ⟨by rw [hE], hat.rel.below⟩
  · skip
    have hn : 0 ≤ n := by simp at h; omega
    have hE : evErr n m = 0 := by
      unfold evErr
      simp at h
      rw [if_neg (by omega), if_neg (by omega)]
    refine Cd.skip ?_
    refine Post.then_ ?_
    refine Cd.seq ?_
    refine Cd.seq ?_
    refine Cd.region ?_
    refine Seq.val (Runs.move rfl rfl) rfl rfl rfl ?_
    refine Seq.val (Runs.move rfl rfl) rfl rfl rfl ?_
    refine Seq.val (Runs.nilCheck rfl rfl) rfl rfl rfl ?_
    refine Seq.val (Runs.fieldA 2 rfl rfl Tryz.underlying105 rfl (by kernel_rfl)) rfl rfl rfl ?_
    refine Seq.val (Runs.load1 rfl rfl Tryz.underlying3 rfl hm2') rfl rfl rfl ?_
    refine Seq.val (Runs.geq rfl rfl rfl) rfl rfl rfl ?_
    refine Seq.nil ?_
    refine Post.weak (F' := [(0, _), (1, _), (2, _), (6, _), (7, _), (24, _), (30, _)]) ⟨rfl, rfl, rfl, rfl, rfl, rfl, rfl, trivial⟩ ?_
    refine Post.then_ ?_
    refine Cd.condT rfl (by simp; omega) ?_
    refine Cd.seq ?_
    refine Cd.region ?_
    refine Seq.val (Runs.move rfl rfl) rfl rfl rfl ?_
    refine Seq.val (Runs.nilCheck rfl rfl) rfl rfl rfl ?_
    refine Seq.val (Runs.fieldA 0 rfl rfl Tryz.underlying105 rfl (by kernel_rfl)) rfl rfl rfl ?_
    refine Seq.val (Runs.load1 rfl rfl Tryz.underlying64 rfl hm0') rfl rfl rfl ?_
    refine Seq.call (Enters.func rfl rfl rfl (run_enter Tryz.func45 (by kernel_rfl) rfl)) rfl rfl rfl (runs_from nb hat (f := 45) (l := [p144]) (xs := [.pointer (some a0)]) (.cons hr0 .nil) (isV_spec he).1 (RI.run_enter Tryz.func45 (by kernel_rfl) rfl _ _)) ?_
    rintro e w1 ⟨x1, L1, rfl, hl1, hat1, hx1⟩
    refine ⟨_, rfl, ?_⟩
    rw [(isV_spec he).2] at hx1
    obtain rfl := rv_int hx1
    refine Seq.val (Runs.assign rfl rfl) rfl rfl rfl ?_
    refine Seq.val (Runs.assign rfl rfl) rfl rfl rfl ?_
    refine Seq.nil ?_
    refine Post.weak (F' := [(0, _), (1, _), (2, _), (6, _), (7, _), (24, _), (30, _)]) ⟨rfl, rfl, rfl, rfl, rfl, rfl, rfl, trivial⟩ ?_
    refine Post.then_ ?_
    refine Cd.ret ?_
    refine Post.then_ret ?_
    refine Post.end2 rfl rfl rfl (.inl rfl) ?_
    exact ⟨by rw [hE], hat1.rel.below⟩
end Go.Proofs.YtenikchlnfhikaaGreatDoor

set_option linter.unusedVariables false
namespace Go.Proofs.YtenikchlnfhikaaGreatDoor
open Go Go.RowKit
noncomputable abbrev row0 : RI.Ob := .row cT 0 0 0 .lf
noncomputable def stB0 : List (Nat × RI.Ob) := (174, row0) :: stB
noncomputable def stB1 : List (Nat × RI.Ob) := (1001, row0) :: stB
noncomputable def S1 : RI.St := RI.stOf stB 1001
noncomputable def S2 : RI.St := RI.stOf stB 2001
set_option maxRecDepth 1000000 in
theorem c0 (l : List Nat) : RI.an (RI.hasAll (nextF stBS l) stB) (Nat.ble (nextF stBS l).nx 1000) = true := by kernel_rfl
set_option maxRecDepth 1000000 in
theorem c0' : RI.an (RI.hasAll stBS stB) (Nat.ble stBS.nx 1000) = true := by kernel_rfl
set_option maxRecDepth 1000000 in
theorem c1 (l : List Nat) : RI.an (RI.hasAll (nextF (more stBS cT) l) stB0) (Nat.ble (nextF (more stBS cT) l).nx 1000) = true := by kernel_rfl
set_option maxRecDepth 1000000 in
theorem c1' : RI.an (RI.hasAll (more stBS cT) stB0) (Nat.ble (more stBS cT).nx 1000) = true := by kernel_rfl
set_option maxRecDepth 1000000 in
theorem fil_ok (l : List Nat) : FilOk S1 l :=
  ⟨⟨by kernel_rfl, ⟨by kernel_rfl, by kernel_rfl, by kernel_rfl, by kernel_rfl, by kernel_rfl, by kernel_rfl, by kernel_rfl⟩, by kernel_rfl⟩, by kernel_rfl⟩
set_option maxRecDepth 1000000 in
theorem fil_okM (l : List Nat) : FilOk (more S1 cT) l :=
  ⟨⟨by kernel_rfl, ⟨by kernel_rfl, by kernel_rfl, by kernel_rfl, by kernel_rfl, by kernel_rfl, by kernel_rfl, by kernel_rfl⟩, by kernel_rfl⟩, by kernel_rfl⟩
set_option maxRecDepth 1000000 in
theorem f0 (l : List Nat) : RI.an (RI.hasAll (nextG S1 l) stB) (Nat.ble (nextG S1 l).nx 2000) = true := by kernel_rfl
set_option maxRecDepth 1000000 in
theorem f0' : RI.an (RI.hasAll S1 stB) (Nat.ble S1.nx 2000) = true := by kernel_rfl
set_option maxRecDepth 1000000 in
theorem f1 (l : List Nat) : RI.an (RI.hasAll (nextG (more S1 cT) l) stB1) (Nat.ble (nextG (more S1 cT) l).nx 2000) = true := by kernel_rfl
set_option maxRecDepth 1000000 in
theorem f1' : RI.an (RI.hasAll (more S1 cT) stB1) (Nat.ble (more S1 cT).nx 2000) = true := by kernel_rfl
set_option maxRecDepth 1000000 in
theorem run_err : isV (.int .i64 0) (runO 45 [p144] S2) = true := by kernel_rfl
theorem S2_E : S2.h.get 156 = some rowE := by kernel_rfl
theorem S2_R : S2.h.get 173 = some rowR := by kernel_rfl
theorem S1_R : S1.h.get 173 = some rowR := by kernel_rfl
theorem S1M_R : (more S1 cT).h.get 173 = some rowR := by kernel_rfl
theorem B_R : stBS.h.get 173 = some rowR := by kernel_rfl
theorem BM_R : (more stBS cT).h.get 173 = some rowR := by kernel_rfl
theorem ra_row {w0 w : World} {y : Value} {S : RI.St} {L : RI.Loc} (hat : At w0 y S w L) {b t n z : Nat} {c : RI.Tr RI.V} {a : Addr} (hb : S.h.get b = some (.row t n 0 z c)) (hA : RI.RA L (.own b 0 0) a) : ∃ B sz, L b 0 = some (B, 0, sz) ∧ a = ⟨B, 0, none⟩ := by
  cases hA with
  | own h =>
    obtain ⟨rfl, -⟩ := hat.row hb h
    exact ⟨_, _, h, rfl⟩
/-- Where an engine under way lies. -/
theorem rig_locs {w0 w : World} {y : Value} {S : RI.St} {L : RI.Loc} (hat : At w0 y S w L) {a : Addr} (hr : S.h.get 173 = some rowR) (he : S.h.get 156 = some rowE) (hs : S.h.get 144 = some rowS) (hA : RI.RA L (.own 173 0 0) a) : ∃ R sR G sG B sB, a = ⟨R, 0, none⟩ ∧ L 173 0 = some (R, 0, sR) ∧ L 156 0 = some (G, 0, sG) ∧ L 144 0 = some (B, 0, sB) := by
  obtain ⟨R, sR, h1, rfl⟩ := ra_row hat hr hA
  obtain ⟨-, hc⟩ := hat.row hr h1
  obtain ⟨m1, hm1, hr1⟩ := hc 1 _ (by omega) rfl
  obtain ⟨a1, rfl, hA1⟩ := rv_ptr hr1
  obtain ⟨G, sG, h2, rfl⟩ := ra_row hat he hA1
  obtain ⟨-, hd⟩ := hat.row he h2
  obtain ⟨m0, hm0, hr0⟩ := hd 0 _ (by omega) rfl
  obtain ⟨a0, rfl, hA0⟩ := rv_ptr hr0
  obtain ⟨B, sB, h3, rfl⟩ := ra_row hat hs hA0
  exact ⟨R, sR, G, sG, B, sB, rfl, h1, h2, h3⟩
/-- What is known while a call of the engine and the making of a block go on in any order. -/
def DrX (w0 : World) (y : Value) (L0 : RI.Loc) (S0 : RI.St) (n1 : Nat) (cl al : Bool) (g : Nat) (w : World) : Prop :=
  ∃ S' L', L0.le L' ∧ At w0 y S' w L' ∧ match cl, al with
    | false, false => S' = S0
    | false, true => S' = more S0 cT ∧ L' S0.nx 0 = some (g, 0, 8)
    | true, false => S' = RI.stOf stB n1
    | true, true => RI.an (RI.hasAll S' stB) (Nat.ble S'.nx (n1 + 1)) = true ∧ ∃ b, S'.h.get b = some row0 ∧ L' b 0 = some (g, 0, 8)
section
variable {w0 w w' : World} {y : Value} {L0 : RI.Loc} {S0 : RI.St} {n1 g : Nat}
theorem DrX.below {cl al : Bool} (h : DrX w0 y L0 S0 n1 cl al g w) : Below w0.heap.size w0 w := by
  obtain ⟨_, _, _, h, _⟩ := h
  exact h.rel.below
theorem DrX.rig {al : Bool} (h : DrX w0 y L0 S0 n1 false al g w) (hr : S0.h.get 173 = some rowR) (hm : (more S0 cT).h.get 173 = some rowR) {R sR G sG : Nat} (hR : L0 173 0 = some (R, 0, sR)) (hG : L0 156 0 = some (G, 0, sG)) : w.cell? ⟨R, 1, none⟩ = some (.pointer (some ⟨G, 0, none⟩)) := by
  obtain ⟨S', L', hle, hat, h⟩ := h
  have hrow : S'.h.get 173 = some rowR := by
    cases al with
    | false => subst h; exact hr
    | true => rw [h.1]; exact hm
  obtain ⟨-, hc⟩ := hat.row hrow (hle _ _ _ hR)
  obtain ⟨m1, hm1, hr1⟩ := hc 1 _ (by omega) rfl
  obtain ⟨a1, rfl, hA1⟩ := rv_ptr hr1
  obtain rfl := ra_own hA1 (hle _ _ _ hG)
  exact hm1
theorem DrX.start (hat : At w0 y S0 w L0) : DrX w0 y L0 S0 n1 false false g w := ⟨S0, L0, fun _ _ _ h => h, hat, rfl⟩
theorem DrX.grow {cl al : Bool} (h : DrX w0 y L0 S0 n1 cl al g w) (hb : Below w.heap.size w w') : DrX w0 y L0 S0 n1 cl al g w' := by
  obtain ⟨S', L', hle, hat, h⟩ := h
  exact ⟨S', L', hle, hat.grow hb, h⟩
theorem DrX.called {al : Bool} {f : FuncId} {xs : Array Value} {u : Value} (h : DrX w0 y L0 S0 n1 false al g w)
    (hn : RI.an (RI.hasAll (RI.stOf ((S0.nx, row0) :: stB) n1) stB) (Nat.ble n1 (n1 + 1)) = true) (hb : (RI.stOf ((S0.nx, row0) :: stB) n1).h.get S0.nx = some row0)
    (h0 : ∀ L, L0.le L → At w0 y S0 w L → Calls Tryz.prog f xs w fun e w' => e = .returned u ∧ ∃ L', L.le L' ∧ At w0 y (RI.stOf stB n1) w' L')
    (h1 : ∀ L, L0.le L → At w0 y (more S0 cT) w L → Calls Tryz.prog f xs w fun e w' => e = .returned u ∧ ∃ L', L.le L' ∧ At w0 y (RI.stOf ((S0.nx, row0) :: stB) n1) w' L') :
    Calls Tryz.prog f xs w fun e w' => e = .returned u ∧ DrX w0 y L0 S0 n1 true al g w' := by
  obtain ⟨S', L', hle, hat, h⟩ := h
  cases al with
  | false =>
    subst h
    exact (h0 L' hle hat).mono fun e w' ⟨k1, L'', k2, k3⟩ => ⟨k1, _, L'', fun _ _ _ q => k2 _ _ _ (hle _ _ _ q), k3, rfl⟩
  | true =>
    obtain ⟨rfl, hL⟩ := h
    exact (h1 L' hle hat).mono fun e w' ⟨k1, L'', k2, k3⟩ => ⟨k1, _, L'', fun _ _ _ q => k2 _ _ _ (hle _ _ _ q), k3, hn, S0.nx, hb, k2 _ _ _ hL⟩
theorem DrX.made {cl : Bool} {g' : Nat} {cs : Array Value} (h : DrX w0 y L0 S0 n1 cl false g w) (n : New w w' g' cT cs) (hs : cs.size = 8) (hh : RI.an (RI.hasAll (more (RI.stOf stB n1) cT) stB) (Nat.ble (n1 + 1) (n1 + 1)) = true) (hb : (more (RI.stOf stB n1) cT).h.get n1 = some row0) : DrX w0 y L0 S0 n1 cl true g' w' := by
  obtain ⟨S', L', hle, hat, h⟩ := h
  obtain ⟨k1, k2⟩ := hat.adopt n
  rw [hs] at k1 k2
  refine ⟨more S' cT, _, fun _ _ _ q => k1 _ _ _ (hle _ _ _ q), k2, ?_⟩
  cases cl with
  | false =>
    subst h
    exact ⟨rfl, RI.Loc.put_self _ _ _ _⟩
  | true =>
    subst h
    exact ⟨hh, n1, hb, RI.Loc.put_self _ _ _ _⟩
theorem DrX.blk (h : DrX w0 y L0 S0 n1 true true g w) : ∃ C, Blk w g cT C ∧ C.size = 8 := by
  obtain ⟨S', L', hle, hat, h, b, h1, h2⟩ := h
  obtain ⟨C, k1, k2, -⟩ := hat.blk0 h1 h2
  exact ⟨C, k1, k2⟩
theorem DrX.put {cs : Array Value} (h : DrX w0 y L0 S0 n1 true true g w) (p : Put w w' g cT cs) (hs : cs.size = 8) : DrX w0 y L0 S0 n1 true true g w' := by
  obtain ⟨S', L', hle, hat, h, b, h1, h2⟩ := h
  exact ⟨S', L', hle, hat.putB h1 h2 p hs, h, b, h1, h2⟩
theorem DrX.ends (h : DrX w0 y L0 S0 n1 true true g w) : ∃ L', L0.le L' ∧ At w0 y (RI.stOf stB (n1 + 1)) w L' := by
  obtain ⟨S', L', hle, hat, h, -⟩ := h
  exact ⟨L', hle, hat.wide h⟩
end
end Go.Proofs.YtenikchlnfhikaaGreatDoor

namespace Go.Proofs.YtenikchlnfhikaaGreatDoor
open Go.RowKit
variable [Inhabited (List Deferred)]

theorem look_app (A B : List (Nat × Value)) (t : Nat) : look (A ++ B) t = match look A t with | some v => some v | none => look B t := by
  induction A with
  | nil => rfl
  | cons x r ih =>
    obtain ⟨k, v⟩ := x
    show (bif Nat.beq k t then some v else look (r ++ B) t) = match (bif Nat.beq k t then some v else look r t) with | some v => some v | none => look B t
    cases Nat.beq k t with
    | true => rfl
    | false => exact ih
/-- The slots of some operations. -/
def slotsF (S : Nat → Bool) : Nat → List Oper → List Value → List (Nat × Value)
  | k, o :: r, v :: vs => match o.dst with
    | some d => bif S k then (d, v) :: slotsF S (k + 1) r vs else slotsF S (k + 1) r vs
    | none => slotsF S (k + 1) r vs
  | _, _, _ => []
theorem slotsF_look {S : Nat → Bool} : ∀ {l : List Oper} {vs : List Value} {k t : Nat} {v : Value}, look (slotsF S k l vs) t = some v → ∃ (j : Nat) (o : Oper), l[j]? = some o ∧ o.dst = some t ∧ vs[j]? = some v ∧ S (k + j) = true
  | [], _, _, _, _, h => by simp [slotsF, look] at h
  | _ :: _, [], _, _, _, h => by simp [slotsF, look] at h
  | o :: r, v :: vs, k, t, u, h => by
    unfold slotsF at h
    have up : look (slotsF S (k + 1) r vs) t = some u → ∃ (j : Nat) (o' : Oper), (o :: r)[j]? = some o' ∧ o'.dst = some t ∧ (v :: vs)[j]? = some u ∧ S (k + j) = true := fun h => by
      obtain ⟨j, o', h1, h2, h3, h4⟩ := slotsF_look h
      exact ⟨j + 1, o', by simpa using h1, h2, by simpa using h3, by rw [show k + (j + 1) = k + 1 + j from by omega]; exact h4⟩
    cases hd : o.dst with
    | none => rw [hd] at h; exact up h
    | some d =>
      rw [hd] at h
      simp only at h
      cases hS : S k with
      | false => rw [hS] at h; exact up h
      | true =>
        rw [hS, cond_true] at h
        rcases look_put h with ⟨rfl, rfl⟩ | ⟨_, h⟩
        · exact ⟨0, o, rfl, hd, rfl, hS⟩
        · exact up h
theorem slotsF_mem {S : Nat → Bool} : ∀ {l : List Oper} {vs : List Value} {k j : Nat} {o : Oper} {d : Nat} {v : Value}, l[j]? = some o → o.dst = some d → vs[j]? = some v → S (k + j) = true → (∀ i o', l[i]? = some o' → i ≠ j → o'.dst ≠ some d) → look (slotsF S k l vs) d = some v
  | [], _, _, _, _, _, _, h, _, _, _, _ => by simp at h
  | _ :: _, [], _, _, _, _, _, _, _, h, _, _ => by simp at h
  | o0 :: r, v0 :: vs, k, 0, o, d, v, h1, h2, h3, h4, h5 => by
    simp at h1 h3
    subst h1 h3
    unfold slotsF
    rw [h2]
    simp only
    rw [Nat.add_zero] at h4
    rw [h4, cond_true]
    unfold look
    rw [Nat.beq_refl]
    rfl
  | o0 :: r, v0 :: vs, k, j + 1, o, d, v, h1, h2, h3, h4, h5 => by
    have ih := slotsF_mem (S := S) (l := r) (vs := vs) (k := k + 1) (j := j) (o := o) (d := d) (v := v) (by simpa using h1) h2 (by simpa using h3) (by rw [show k + 1 + j = k + (j + 1) from by omega]; exact h4) (fun i o' hi hne => h5 (i + 1) o' (by simpa using hi) (by omega))
    unfold slotsF
    cases hd : o0.dst with
    | none => exact ih
    | some d0 =>
      simp only
      cases S k with
      | false => exact ih
      | true =>
        have hne : d0 ≠ d := fun e => h5 0 o0 rfl (by omega) (by rw [hd, e])
        rw [cond_true]
        unfold look
        have : Nat.beq d0 d = false := by
          cases hb : Nat.beq d0 d with
          | false => rfl
          | true => exact absurd (Nat.eq_of_beq_eq_true hb) hne
        rw [this, cond_false]
        exact ih
section
variable {P : Program} {Q : Exit → Act → World → Prop} {n : Nat} {F0 : List (Nat × Value)}
/-- What is known ahead of an operation: its predecessors' slots first, all that are done, the frame's. -/
def frameG (l : List Oper) (F0 : List (Nat × Value)) (vs : List Value) (S : Nat → Bool) (o : Oper) : List (Nat × Value) := slotsF (fun k => memB (direct o) k) 0 l vs ++ (F0 ++ slotsF S 0 l vs)
/-- What is to hold behind it. -/
def AfterG {σT : Type} (l : List Oper) (n : Nat) (F0 : List (Nat × Value)) (vs : σT → List Value) (X : σT → (Nat → Bool) → World → Prop) (S : Nat → Bool) (k : Nat) (a : Act) (w : World) : Prop :=
  ∃ σ, Fr n F0 a ∧ (∀ (j : Nat) (o : Oper) (d : Nat) (v : Value), l[j]? = some o → o.dst = some d → updC S k j = true → (vs σ)[j]? = some v → a.tmps[d]? = some v) ∧ X σ (updC S k) w
def DownC (l : List Oper) (S : Nat → Bool) : Prop := ∀ (i : Nat) (o : Oper), l[i]? = some o → S i = true → ∀ x ∈ direct o, S x = true
def StepG {σT : Type} (P : Program) (ops : Array Oper) (Q : Exit → Act → World → Prop) (l : List Oper) (n : Nat) (F0 : List (Nat × Value)) (vs : σT → List Value) (X : σT → (Nat → Bool) → World → Prop) (k : Nat) (o : Oper) : Prop :=
  ∀ (σ : σT) (S : Nat → Bool) (w : World), S k = false → (∀ x ∈ direct o, S x = true) → DownC l S → X σ S w → Seq P ops (Exit.then (AfterG l n F0 vs X S k) Q) [o] n (frameG l F0 (vs σ) S o) w
theorem oper_then {o : Oper} {a : Act} {w : World} {K K' : Act → World → Prop} (h : o.wp P a w K (Exit.then K' Q)) : o.wp P a w K Q := by
  unfold Oper.wp at *
  unfold Oper.upon at *
  split at h <;> exact h
theorem done_slots {l : List Oper} {keys : List Nat} (hchk : chkInit n keys 0 [] l = true) {j : Nat} {o : Oper} {d : Nat} (h : l[j]? = some o) (hd : o.dst = some d) : d < n ∧ d ∉ keys ∧ ∀ i o', l[i]? = some o' → i ≠ j → o'.dst ≠ some d := by
  obtain ⟨-, h2⟩ := chkInit_spec hchk j o h
  obtain ⟨a1, -, a3, a4⟩ := h2 d hd
  exact ⟨a1, a3, a4⟩
theorem Post.afterG {σT : Type} {l : List Oper} {vs : σT → List Value} {X : σT → (Nat → Bool) → World → Prop} {σ σ' : σT} {S : Nat → Bool} {k d : Nat} {o : Oper} {u : Value} {w' : World} (hchk : chkInit n (keysOf F0) 0 [] l = true) (ho : l[k]? = some o) (hd : o.dst = some d) (hpre : ∀ x ∈ direct o, S x = true) (hu : (vs σ')[k]? = some u) (hj : ∀ j, S j = true → (vs σ')[j]? = (vs σ)[j]?) (hX : X σ' (updC S k) w') :
    Post (Exit.then (AfterG l n F0 vs X S k) Q) .normal n ((d, u) :: frameG l F0 (vs σ) S o) w' := by
  intro a ha
  obtain ⟨b1, b2, b3⟩ := done_slots hchk ho hd
  have hF : ∀ t v, look F0 t = some v → a.tmps[t]? = some v := fun t v ht => by
    have hk := look_keys ht
    have hnone : ∀ S', look (slotsF S' 0 l (vs σ)) t = none := fun S' => by
      cases hl : look (slotsF S' 0 l (vs σ)) t with
      | none => rfl
      | some x =>
        obtain ⟨j, o', h1, h2, -, -⟩ := slotsF_look hl
        exact absurd hk (done_slots hchk h1 h2).2.1
    refine ha.slot t v ?_
    unfold look
    cases hb : Nat.beq d t with
    | true => rw [Nat.eq_of_beq_eq_true hb] at b2; exact absurd hk b2
    | false =>
      rw [cond_false]
      unfold frameG
      rw [look_app, hnone]
      simp only
      rw [look_app, ht]
  refine ⟨σ', ⟨ha.size, ha.defers, hF⟩, fun j o' d' v h1 h2 h3 h4 => ?_, hX⟩
  by_cases hjk : j = k
  · subst hjk
    rw [ho] at h1
    injection h1 with h1
    subst h1
    rw [hd] at h2
    injection h2 with h2
    subst h2
    rw [hu] at h4
    injection h4 with h4
    subst h4
    exact ha.slot d u (by unfold look; rw [Nat.beq_refl]; rfl)
  · have hS : S j = true := by unfold updC at h3; rwa [if_neg hjk] at h3
    have hv : (vs σ)[j]? = some v := by rw [← hj j hS]; exact h4
    obtain ⟨c1, c2, c3⟩ := done_slots hchk h1 h2
    refine ha.slot d' v ?_
    have hne : d ≠ d' := fun e => b3 j o' h1 hjk (by rw [h2, e])
    unfold look
    have hb : Nat.beq d d' = false := by
      cases hb : Nat.beq d d' with
      | false => rfl
      | true => exact absurd (Nat.eq_of_beq_eq_true hb) hne
    rw [hb, cond_false]
    unfold frameG
    rw [look_app]
    have h0 : look (slotsF S 0 l (vs σ)) d' = some v := slotsF_mem h1 h2 hv (by rw [Nat.zero_add]; exact hS) c3
    cases hl : look (slotsF (fun k => memB (direct o) k) 0 l (vs σ)) d' with
    | none =>
      simp only
      rw [look_app]
      cases hf : look F0 d' with
      | none => simp only; exact h0
      | some y => exact absurd (look_keys hf) c2
    | some x =>
      obtain ⟨i, oi, e1, e2, e3, -⟩ := slotsF_look hl
      have : i = j := by
        by_cases hij : i = j
        · exact hij
        · exact absurd e2 (c3 i oi e1 hij)
      subst this
      rw [hv] at e3
      exact e3.symm
theorem Post.afterG0 {σT : Type} {l : List Oper} {vs : σT → List Value} {X : σT → (Nat → Bool) → World → Prop} {σ σ' : σT} {S : Nat → Bool} {k : Nat} {o : Oper} {w' : World} (hchk : chkInit n (keysOf F0) 0 [] l = true) (ho : l[k]? = some o) (hd : o.dst = none) (hj : ∀ j, S j = true → (vs σ')[j]? = (vs σ)[j]?) (hX : X σ' (updC S k) w') :
    Post (Exit.then (AfterG l n F0 vs X S k) Q) .normal n (frameG l F0 (vs σ) S o) w' := by
  intro a ha
  have hF : ∀ t v, look F0 t = some v → a.tmps[t]? = some v := fun t v ht => by
    have hk := look_keys ht
    have hnone : ∀ S', look (slotsF S' 0 l (vs σ)) t = none := fun S' => by
      cases hl : look (slotsF S' 0 l (vs σ)) t with
      | none => rfl
      | some x =>
        obtain ⟨j, o', h1, h2, -, -⟩ := slotsF_look hl
        exact absurd hk (done_slots hchk h1 h2).2.1
    refine ha.slot t v ?_
    unfold frameG
    rw [look_app, hnone]
    simp only
    rw [look_app, ht]
  refine ⟨σ', ⟨ha.size, ha.defers, hF⟩, fun j o' d' v h1 h2 h3 h4 => ?_, hX⟩
  have hjk : j ≠ k := fun e => by
    subst e
    rw [ho] at h1
    injection h1 with h1
    subst h1
    rw [hd] at h2
    cases h2
  have hS : S j = true := by unfold updC at h3; rwa [if_neg hjk] at h3
  have hv : (vs σ)[j]? = some v := by rw [← hj j hS]; exact h4
  obtain ⟨c1, c2, c3⟩ := done_slots hchk h1 h2
  refine ha.slot d' v ?_
  unfold frameG
  rw [look_app]
  have h0 : look (slotsF S 0 l (vs σ)) d' = some v := slotsF_mem h1 h2 hv (by rw [Nat.zero_add]; exact hS) c3
  cases hl : look (slotsF (fun k => memB (direct o) k) 0 l (vs σ)) d' with
  | none =>
    simp only
    rw [look_app]
    cases hf : look F0 d' with
    | none => simp only; exact h0
    | some y => exact absurd (look_keys hf) c2
  | some x =>
    obtain ⟨i, oi, e1, e2, e3, -⟩ := slotsF_look hl
    have : i = j := by
      by_cases hij : i = j
      · exact hij
      · exact absurd e2 (c3 i oi e1 hij)
    subst this
    rw [hv] at e3
    exact e3.symm
/-- All slots, at the end. -/
def allF : List Oper → List Value → List (Nat × Value) → List (Nat × Value)
  | o :: r, v :: vs, F => match o.dst with
    | some d => (d, v) :: allF r vs F
    | none => allF r vs F
  | _, _, F => F
theorem allF_look : ∀ {l : List Oper} {vs : List Value} {F : List (Nat × Value)} {t : Nat} {v : Value}, look (allF l vs F) t = some v → (∃ (j : Nat) (o : Oper), l[j]? = some o ∧ o.dst = some t ∧ vs[j]? = some v) ∨ look F t = some v
  | [], _, _, _, _, h => .inr h
  | _ :: _, [], _, _, _, h => .inr h
  | o :: r, u :: vs, F, t, v, h => by
    have up : look (allF r vs F) t = some v → (∃ (j : Nat) (o' : Oper), (o :: r)[j]? = some o' ∧ o'.dst = some t ∧ (u :: vs)[j]? = some v) ∨ look F t = some v := fun h => by
      rcases allF_look h with ⟨j, o', h1, h2, h3⟩ | h
      · exact .inl ⟨j + 1, o', by simpa using h1, h2, by simpa using h3⟩
      · exact .inr h
    unfold allF at h
    cases hd : o.dst with
    | none => rw [hd] at h; exact up h
    | some d =>
      rw [hd] at h
      simp only at h
      rcases look_put h with ⟨rfl, rfl⟩ | ⟨_, h⟩
      · exact .inl ⟨0, o, rfl, hd, rfl⟩
      · exact up h
theorem rep_getD (m i : Nat) : (Array.replicate m false).getD i false = false := by by_cases h : i < m <;> simp [h]
def inAll (ds : List Nat) : Nat → Bool
  | 0 => true
  | k + 1 => memB ds k && inAll ds k
theorem inAll_spec {ds : List Nat} : ∀ {m : Nat}, inAll ds m = true → ∀ i, i < m → i ∈ ds
  | 0, _, i, hi => by omega
  | m + 1, h, i, hi => by
    unfold inAll at h
    simp only [Bool.and_eq_true] at h
    rcases Nat.lt_or_ge i m with h1 | h1
    · exact inAll_spec h.2 i h1
    · obtain rfl : i = m := by omega
      exact memB_spec h.1
/-- The operations behind wait for all ahead of them, one by one. -/
def chkRest (m : Nat) : List Oper → Bool
  | [] => true
  | o :: r => inAll (direct o) m && ltAll m (direct o) && chkTail (m + 1) r
/-- A region that draws its order, whatever is known of the world by which operations are done; those behind come one by one. -/
theorem Cd.drawG {σT : Type} (m : Nat) {id : Nat} {l : List Oper} {w : World} (hm : P.follows .mixedOrders = true) (hchk : chkInit n (keysOf F0) 0 [] (l.take m) = true) (hrest : chkRest (l.take m).length (l.drop m) = true) (vs : σT → List Value) (X : σT → (Nat → Bool) → World → Prop) (σ0 : σT)
    (h0 : ∀ w0, Below w.heap.size w w0 → w0.heap.size = w.heap.size → X σ0 (fun _ => false) w0)
    (hstep : ∀ (k : Nat) (o : Oper), (l.take m)[k]? = some o → StepG P l.toArray Q (l.take m) n F0 vs X k o)
    (hfin : ∀ (σ : σT) (S : Nat → Bool) (w : World), (∀ i, i < (l.take m).length → S i = true) → X σ S w → Seq P l.toArray Q (l.drop m) n (allF (l.take m) (vs σ) F0) w) : Cd P (.region id l.toArray true) Q n F0 w := by
  have hops : l.toArray = (l.take m ++ l.drop m).toArray := by rw [List.take_append_drop]
  revert hchk hrest hstep hfin
  generalize l.take m = init at *
  generalize l.drop m = tail at *
  intro hchk hrest hstep hfin
  generalize l.toArray = ops at *
  intro a ha
  refine wp_region_any hm ?_
  have hw0 := h0 { w with drawn := w.drawn + 1 } ⟨rfl, rfl, rfl, Nat.le_refl _, fun _ _ => rfl⟩ rfl
  have c1 := chkInit_spec hchk
  have hsz : ops.size = init.length + tail.length := by rw [hops]; simp
  have hat : ∀ i, i < init.length → ops[i]? = init[i]? := fun i hi => by rw [hops]; simp [List.getElem?_append_left hi]
  have hat2 : ∀ r, ops[init.length + r]? = tail[r]? := fun r => by rw [hops]; simp [List.getElem?_append_right]
  have t0 : ∀ o, tail[0]? = some o → (∀ x ∈ direct o, x < init.length) ∧ ∀ i, i < init.length → i ∈ direct o := by
    intro o ho
    cases tail with
    | nil => simp at ho
    | cons o1 r =>
      obtain rfl : o1 = o := by simpa using ho
      unfold chkRest at hrest
      simp only [Bool.and_eq_true] at hrest
      exact ⟨ltAll_spec hrest.1.2, inAll_spec hrest.1.1⟩
  have ts : ∀ i o, tail[i + 1]? = some o → (∀ x ∈ direct o, x < init.length + 1 + i) ∧ init.length + 1 + i - 1 ∈ direct o := by
    intro i o ho
    cases tail with
    | nil => simp at ho
    | cons o1 r =>
      unfold chkRest at hrest
      simp only [Bool.and_eq_true] at hrest
      exact chkTail_spec hrest.2 i o (by simpa using ho)
  have key : ∀ (fuel : Nat) (listed : Array Bool) (σ : σT) (a : Act) (w : World), listed.size = ops.size → DownC init (fun j => listed.getD j false) → (∀ i, init.length ≤ i → i < ops.size → listed.getD i true = false) → Fr n F0 a → (∀ (j : Nat) (o : Oper) (d : Nat) (v : Value), init[j]? = some o → o.dst = some d → listed.getD j false = true → (vs σ)[j]? = some v → a.tmps[d]? = some v) → X σ (fun j => listed.getD j false) w → left listed ops.size ≤ fuel → wpAny P .any ops Q fuel listed a w := by
    have fin : ∀ (fuel : Nat) (listed : Array Bool) (σ : σT) (a : Act) (w : World), listed.size = ops.size → (∀ i, i < init.length → listed.getD i true = true) → (∀ i, init.length ≤ i → i < ops.size → listed.getD i true = false) → Fr n F0 a → (∀ (j : Nat) (o : Oper) (d : Nat) (v : Value), init[j]? = some o → o.dst = some d → listed.getD j false = true → (vs σ)[j]? = some v → a.tmps[d]? = some v) → X σ (fun j => listed.getD j false) w → left listed ops.size ≤ fuel → wpAny P .any ops Q fuel listed a w := by
      intro fuel listed σ a w hl hall hts hF hD hX hf
      have hb : ∀ i, i < init.length → listed.getD i false = true := fun i hi => by
        have h1 := hall i hi
        have h2 : i < listed.size := by omega
        simp [h2] at h1 ⊢
        exact h1
      have hleft : ∀ k, k ≤ ops.size → left listed k = k - init.length := by
        intro k
        induction k with
        | zero => intro _; show 0 = 0 - init.length; omega
        | succ k ihk =>
          intro hk
          unfold left
          rw [ihk (by omega)]
          rcases Nat.lt_or_ge k init.length with h1 | h1
          · rw [if_pos (hall k h1)]; omega
          · rw [if_neg (by rw [hts k h1 (by omega)]; simp)]; omega
      refine phase2 hops (fun o ho => (t0 o ho).1) ts fuel 0 listed a w hl (Nat.zero_le _) (fun i hi => hall i (by omega)) (fun i hi hi2 => hts i (by omega) hi2) (by have := hleft ops.size (Nat.le_refl _); omega) ?_
      rw [List.drop_zero]
      refine hfin σ _ w hb hX a ⟨hF.size, hF.defers, fun t v ht => ?_⟩
      rcases allF_look ht with ⟨j, o, h1, h2, h3⟩ | h
      · exact hD j o t v h1 h2 (hb j (List.getElem?_eq_some_iff.1 h1).1) h3
      · exact hF.slot t v h
    intro fuel
    induction fuel with
    | zero =>
      intro listed σ a w hl hdc hts hF hD hX hf
      have hall := left_zero (Nat.le_zero.1 hf)
      exact fin 0 listed σ a w hl (fun i hi => hall i (by omega)) hts hF hD hX hf
    | succ fuel ih =>
      intro listed σ a w hl hdc hts hF hD hX hf
      by_cases hdone : ∀ i, i < init.length → listed.getD i true = true
      · exact fin _ listed σ a w hl hdone hts hF hD hX hf
      have hex : ∃ i, i ∈ Region.ready .any ops listed := by
        refine Classical.byContradiction fun hno => hdone ?_
        have this : ∀ i, (∀ j, j < i → j < init.length → listed.getD j true = true) → i < init.length → listed.getD i true = true := fun i hlt hi => by
          cases hb : listed.getD i true with
          | true => rfl
          | false =>
            exfalso
            refine hno ⟨i, ready_iff.2 ⟨hb, init[i], by rw [hat i hi, List.getElem?_eq_getElem hi], fun x hx => ?_⟩⟩
            have hxi := (c1 i _ (List.getElem?_eq_getElem hi)).1 x hx
            have h1 := hlt x (by omega) (by omega)
            have h2 : x < listed.size := by omega
            simp [h2] at h1 ⊢
            exact h1
        have all : ∀ m i, i ≤ m → i < init.length → listed.getD i true = true := by
          intro m
          induction m using Nat.strongRecOn with
          | _ m ihm => intro i him hi; exact this i (fun j hj hjl => ihm j (by omega) j (Nat.le_refl _) hjl) hi
        exact fun i hi => all i i (Nat.le_refl _) hi
      refine ⟨fun hnil => (by obtain ⟨i, hi⟩ := hex; rw [hnil] at hi; cases hi), fun i hi => ?_⟩
      · obtain ⟨g1, o, ho, g2⟩ := ready_iff.1 hi
        have hio := (Array.getElem?_eq_some_iff.1 ho).1
        have hil : i < init.length := by
          rcases Nat.lt_or_ge i init.length with h | h
          · exact h
          · exfalso
            obtain ⟨q, rfl⟩ : ∃ q, i = init.length + q := ⟨i - init.length, by omega⟩
            rw [hat2] at ho
            cases q with
            | zero =>
              refine hdone fun j hj => ?_
              have h1 := g2 j ((t0 o ho).2 j hj)
              have h2 : j < listed.size := by omega
              simp [h2] at h1 ⊢
              exact h1
            | succ q =>
              have h1 := g2 _ (ts q o ho).2
              have h2 := hts (init.length + 1 + q - 1) (by omega) (by omega)
              rw [getD_both h2] at h1
              cases h1
        rw [hat i hil] at ho
        have hSi : listed.getD i false = false := getD_both g1
        have hst := hstep i o ho σ (fun j => listed.getD j false) w hSi g2 hdc hX a ⟨hF.size, hF.defers, fun t v ht => by
          unfold frameG at ht
          rw [look_app] at ht
          cases h1 : look (slotsF (fun k => memB (direct o) k) 0 init (vs σ)) t with
          | some x =>
            rw [h1] at ht
            injection ht with ht
            subst ht
            obtain ⟨j, oj, e1, e2, e3, e4⟩ := slotsF_look h1
            rw [Nat.zero_add] at e4
            exact hD j oj t x e1 e2 (g2 j (memB_spec e4)) e3
          | none =>
            rw [h1] at ht
            simp only at ht
            rw [look_app] at ht
            cases h2 : look F0 t with
            | some x =>
              rw [h2] at ht
              injection ht with ht
              subst ht
              exact hF.slot t x h2
            | none =>
              rw [h2] at ht
              simp only at ht
              obtain ⟨j, oj, e1, e2, e3, e4⟩ := slotsF_look ht
              rw [Nat.zero_add] at e4
              exact hD j oj t v e1 e2 e4 e3⟩
        have hupd : (fun j => (listed.setIfInBounds i true).getD j false) = updC (fun j => listed.getD j false) i := by
          funext j
          unfold updC
          by_cases e : i = j
          · subst e; simp [getD_set_self false (show i < listed.size by omega)]
          · rw [getD_set_ne false e, if_neg (fun h => e h.symm)]
        have next : ∀ a' w', AfterG init n F0 vs X (fun j => listed.getD j false) i a' w' → wpAny P .any ops Q fuel (listed.setIfInBounds i true) a' w' := by
          rintro a' w' ⟨σ', h1, h2, h3⟩
          rw [← hupd] at h3
          refine ih _ σ' a' w' (by simp [hl]) ?_ (fun j h4 h5 => by rw [getD_set_ne true (by omega)]; exact hts j h4 h5) h1 (fun j oj d v e1 e2 e3 e4 => h2 j oj d v e1 e2 (by rw [← hupd]; exact e3) e4) h3 ?_
          · intro i2 o2 e1 e2 x hx
            simp only at e2 ⊢
            by_cases e : i = i2
            · subst e
              rw [ho] at e1
              injection e1 with e1
              subst e1
              exact getD_set_true (g2 x hx)
            · rw [getD_set_ne false e] at e2
              exact getD_set_true (hdc i2 o2 e1 e2 x hx)
          · have := left_set (listed := listed) (i := i) (by omega) g1 ops.size
            rw [if_pos hio] at this
            omega
        unfold wpOp
        rw [hat i hil, ho]
        simp only
        unfold wpList at hst
        by_cases hwant : Region.wanted o (yielded ops a.tmps) = true
        · rw [if_pos hwant] at hst ⊢
          rcases hst with hst | ⟨h1, h2⟩
          · exact .inl (Oper.wp_mono next (oper_then (Oper.wp_mono (fun a' w' h => h) hst)))
          · exact .inr ⟨h1, h2⟩
        · rw [if_neg hwant] at hst ⊢
          exact next _ _ hst
  refine key ops.size _ σ0 a _ (by simp) (fun i o _ h => ?_) (fun i _ h => by simp [h]) ha (fun j o d v _ _ h _ => ?_) ?_ ?_
  · simp only [rep_getD] at h; cases h
  · rw [rep_getD] at h; cases h
  · have hrep : (fun j => (Array.replicate ops.size false).getD j false) = fun _ => false := funext fun i => rep_getD _ i
    rw [hrep]
    exact hw0
  · have : ∀ k, left (Array.replicate ops.size false) k ≤ k := by
      intro k
      induction k with
      | zero => exact Nat.le_refl _
      | succ k ih => unfold left; split <;> omega
    exact this _
end
end Go.Proofs.YtenikchlnfhikaaGreatDoor

namespace Go.Proofs.YtenikchlnfhikaaGreatDoor
open Go Go.RowKit

theorem notDone {l : List Oper} {S : Nat → Bool} (hdc : DownC l S) {i k : Nat} {o : Oper} (ho : l[i]? = some o) (hS : S k = false) (hm : k ∈ direct o) : S i = false := by
  cases h : S i with
  | false => rfl
  | true => have := hdc i o ho h k hm; rw [hS] at this; cases this
theorem leaves_begin : ∀ p ∈ RI.Sh.lf.paths, RI.leafB stBOk p (runO 23 [.int .i64 1048576] ⟨.lf, 0⟩) = true := fun p hp => by
  simp [RI.Sh.paths] at hp
  subst hp
  exact run_begin
abbrev cfgZ : Value := .agg #[.int .i64 2, .int .i64 4000, .int .i64 2, .int .i64 1000]
theorem open_nil (w : World) (nb : Nb w) : Calls Tryz.prog 10 #[.pointer none, cfgZ] w fun e w' => e = .returned (.tuple #[.pointer none, .int .i64 1]) ∧ Below w.heap.size w w' :=
  runs_val w nb (l := [.ptr none, vCfg]) (xs := [.pointer none, cfgZ]) (fun _ => .cons .ptr0 (.cons (.agg (.cons (.int _ _) (.cons (.int _ _) (.cons (.int _ _) (.cons (.int _ _) .nil))))) .nil)) run_nilOpen (rv_two (fun _ _ _ h => rv_nilP h) (fun _ _ _ h => rv_int h)) (RI.run_enter Tryz.func10 (by kernel_rfl) rfl _ _)
theorem do_nil (a : As) (ha : a.byt) (w : World) (nb : Nb w) : Calls Tryz.prog 12 #[.pointer none, a.v] w fun e w' => e = .returned (.tuple #[.slice none 0 0, .int .i64 1]) ∧ Below w.heap.size w w' :=
  runs_val w nb (l := [.ptr none, askV a]) (xs := [.pointer none, a.v]) (fun _ => .cons .ptr0 (.cons (rv_askV ha) .nil)) (run_nilDo a) (rv_two (fun _ _ _ h => rv_nil h) (fun _ _ _ h => rv_int h)) (RI.run_enter Tryz.func12 (by kernel_rfl) rfl _ _)
theorem ids_nil (w : World) (nb : Nb w) : Calls Tryz.prog 15 #[.pointer none] w fun e w' => e = .returned (.tuple #[.slice none 0 0, .int .i64 1]) ∧ Below w.heap.size w w' :=
  runs_val w nb (l := [.ptr none]) (xs := [.pointer none]) (fun _ => .cons .ptr0 .nil) run_nilIds (rv_two (fun _ _ _ h => rv_nil h) (fun _ _ _ h => rv_int h)) (RI.run_enter Tryz.func15 (by kernel_rfl) rfl _ _)
theorem bal_nil (x y : List Nat) (hx : ∀ z ∈ x, z < 256) (hy : ∀ z ∈ y, z < 256) (w : World) (nb : Nb w) : Calls Tryz.prog 16 #[.pointer none, .string (strOf x), .string (strOf y)] w fun e w' => e = .returned (.tuple #[.int .i64 0, .int .i64 1]) ∧ Below w.heap.size w w' :=
  runs_val w nb (l := [.ptr none, .str x, .str y]) (xs := [.pointer none, .string (strOf x), .string (strOf y)]) (fun _ => .cons .ptr0 (.cons (rv_of hx) (.cons (rv_of hy) .nil))) (run_nilBal x y) (rv_two (fun _ _ _ h => rv_int h) (fun _ _ _ h => rv_int h)) (RI.run_enter Tryz.func16 (by kernel_rfl) rfl _ _)
theorem books_nil (w : World) (nb : Nb w) : Calls Tryz.prog 17 #[.pointer none] w fun e w' => e = .returned (.tuple #[.slice none 0 0, .int .i64 1]) ∧ Below w.heap.size w w' :=
  runs_val w nb (l := [.ptr none]) (xs := [.pointer none]) (fun _ => .cons .ptr0 .nil) run_nilBooks (rv_two (fun _ _ _ h => rv_nil h) (fun _ _ _ h => rv_int h)) (RI.run_enter Tryz.func17 (by kernel_rfl) rfl _ _)
theorem ev_nil (n m : Int) (w : World) (nb : Nb w) : Calls Tryz.prog 18 #[.pointer none, .int .i64 n, .int .i64 m] w fun e w' => e = .returned (.tuple #[.slice none 0 0, .int .i64 1]) ∧ Below w.heap.size w w' :=
  runs_val w nb (l := [.ptr none, .int .i64 n, .int .i64 m]) (xs := [.pointer none, .int .i64 n, .int .i64 m]) (fun _ => .cons .ptr0 (.cons (.int _ _) (.cons (.int _ _) .nil))) (run_nilEv n m) (rv_two (fun _ _ _ h => rv_nil h) (fun _ _ _ h => rv_int h)) (RI.run_enter Tryz.func18 (by kernel_rfl) rfl _ _)
theorem day_nil (w : World) (nb : Nb w) : Calls Tryz.prog 19 #[.pointer none] w fun e w' => e = .returned (.int .i64 0) ∧ Below w.heap.size w w' :=
  runs_val w nb (l := [.ptr none]) (xs := [.pointer none]) (fun _ => .cons .ptr0 .nil) run_nilDay (fun _ _ _ h => rv_int h) (RI.run_enter Tryz.func19 (by kernel_rfl) rfl _ _)
theorem count_nil (w : World) (nb : Nb w) : Calls Tryz.prog 20 #[.pointer none] w fun e w' => e = .returned (.int .i64 0) ∧ Below w.heap.size w w' :=
  runs_val w nb (l := [.ptr none]) (xs := [.pointer none]) (fun _ => .cons .ptr0 .nil) run_nilCount (fun _ _ _ h => rv_int h) (RI.run_enter Tryz.func20 (by kernel_rfl) rfl _ _)
theorem audit_nil (w : World) (nb : Nb w) : Calls Tryz.prog 21 #[.pointer none] w fun e w' => e = .returned (.int .i64 1) ∧ Below w.heap.size w w' :=
  runs_val w nb (l := [.ptr none]) (xs := [.pointer none]) (fun _ => .cons .ptr0 .nil) run_nilAudit (fun _ _ _ h => rv_int h) (RI.run_enter Tryz.func21 (by kernel_rfl) rfl _ _)
theorem store_nil (w : World) (nb : Nb w) : Calls Tryz.prog 22 #[.pointer none] w fun e w' => e = .returned (.pointer none) ∧ Below w.heap.size w w' :=
  runs_val w nb (l := [.ptr none]) (xs := [.pointer none]) (fun _ => .cons .ptr0 .nil) run_nilStore (fun _ _ _ h => rv_nilP h) (RI.run_enter Tryz.func22 (by kernel_rfl) rfl _ _)
set_option maxHeartbeats 4000000 in
theorem walk_engine (a : As) (n m : Int) (w : World) (nb : Nb w) (hb : a.byt) : Calls Tryz.prog 4 #[a.v, .int .i64 n, .int .i64 m] w fun e w' => e = .returned (.bool true) ∧ Below w.heap.size w w' := by
  have bel := Below.refl w.heap.size w
  refine Calls.start 204 Tryz.func4 rfl rfl rfl ?_
  refine Cd.seq ?_
  refine Cd.region ?_
  refine Seq.box rfl rfl rfl rfl rfl ?_
  intro g3 w1 n3
  have e3 := Nat.le_trans bel.size n3.ge
  replace bel := bel.step n3.below
  have k3 := n3.blk
  refine Seq.val (Runs.assign rfl rfl) rfl rfl rfl ?_
  refine Seq.nil ?_
  refine Post.weak (F' := [(0, _), (1, _), (2, _), (3, _), (6, _)]) ⟨rfl, rfl, rfl, rfl, rfl, trivial⟩ ?_
  refine Post.then_ ?_
  refine Cd.seq ?_
  refine Cd.seq ?_
  refine Cd.region ?_
  refine Seq.val (Runs.loadW rfl rfl Tryz.underlying23 rfl k3 (m := 10) (by kernel_rfl) rfl) rfl rfl rfl ?_
  refine Seq.val (Runs.build rfl rfl (run_build_say a _)) rfl rfl rfl ?_
  refine Seq.val (Runs.build rfl rfl (run_build_act a _)) rfl rfl rfl ?_
  refine Seq.slice (vs := [_]) (s := 14) rfl rfl rfl Tryz.underlying31 (by kernel_rfl) (zero_debenturelaw26_Act) (by omega) (by omega) ⟨rfl, trivial⟩ rfl rfl rfl ?_
  intro g33 w2 n33
  have e33 := Nat.le_trans bel.size n33.ge
  have l33 := Nat.lt_of_lt_of_le k3.lt n33.ge
  replace bel := bel.step n33.below
  replace k3 := k3.step n33.below
  have k33 := n33.blk
  refine Seq.call (Enters.func rfl rfl rfl (run_enter Tryz.func6 (by kernel_rfl) rfl)) rfl rfl rfl (great_one _ 1 a _ (nb.step bel) k33 hb.t) ?_
  rintro e w9 ⟨⟨b, rfl, hsm⟩, hb9⟩
  refine ⟨_, rfl, ?_⟩
  replace bel := bel.step hb9
  replace k3 := k3.step hb9
  refine Seq.nil ?_
  refine Post.weak (F' := [(0, _), (1, _), (2, _), (3, _), (6, _), (34, _)]) ⟨rfl, rfl, rfl, rfl, rfl, rfl, trivial⟩ ?_
  refine Post.then_ ?_
  refine Cd.cond rfl (fun h => ?_) (fun h => ?_)
  · skip
    refine Cd.seq ?_
    refine Cd.region ?_
    refine Seq.call (Enters.func rfl rfl rfl (run_enter Tryz.func7 (by kernel_rfl) rfl)) rfl rfl rfl (awake26_any _ (nb.step bel)) ?_
    rintro e w10 ⟨rfl, hb10⟩
    refine ⟨_, rfl, ?_⟩
    replace bel := bel.step hb10
    replace k3 := k3.step hb10
    refine Seq.val (Runs.assign rfl rfl) rfl rfl rfl ?_
    refine Seq.nil ?_
    refine Post.weak (F' := [(0, _), (1, _), (2, _), (3, _), (6, _), (34, _)]) ⟨rfl, rfl, rfl, rfl, rfl, rfl, trivial⟩ ?_
    refine Post.then_ ?_
    refine Cd.ret ?_
    refine Post.then_ret ?_
    refine Post.end1 rfl rfl (.inl rfl) ?_
    exact ⟨rfl, bel⟩
  · skip
    obtain ⟨s1, s2, s3, s4, s5⟩ := hsm h
    refine Cd.skip ?_
    refine Post.then_ ?_
    refine Cd.seq ?_
    refine Cd.region ?_
    refine Seq.call (Enters.func rfl rfl rfl (run_enter Tryz.func11 (by kernel_rfl) rfl)) rfl rfl rfl (cfg_any _ (nb.step bel)) ?_
    rintro e w10 ⟨rfl, hb10⟩
    refine ⟨_, rfl, ?_⟩
    replace bel := bel.step hb10
    replace k3 := k3.step hb10
    refine Seq.call (Enters.func rfl rfl rfl (run_enter Tryz.func10 (by kernel_rfl) rfl)) rfl rfl rfl (open_nil _ (nb.step bel)) ?_
    rintro e w11 ⟨rfl, hb11⟩
    refine ⟨_, rfl, ?_⟩
    replace bel := bel.step hb11
    replace k3 := k3.step hb11
    refine Seq.val (Runs.move rfl rfl) rfl rfl rfl ?_
    refine Seq.val (Runs.extract rfl rfl rfl) rfl rfl rfl ?_
    refine Seq.val (Runs.extract rfl rfl rfl) rfl rfl rfl ?_
    refine Seq.val (Runs.assign rfl rfl) rfl rfl rfl ?_
    refine Seq.val (Runs.assign rfl rfl) rfl rfl rfl ?_
    refine Seq.nil ?_
    refine Post.weak (F' := [(0, _), (1, _), (2, _), (3, _), (6, _), (7, _), (8, _), (34, _)]) ⟨rfl, rfl, rfl, rfl, rfl, rfl, rfl, rfl, trivial⟩ ?_
    refine Post.then_ ?_
    refine Cd.seq ?_
    refine Cd.region ?_
    refine Seq.val (Runs.move rfl rfl) rfl rfl rfl ?_
    refine Seq.val (Runs.loadW rfl rfl Tryz.underlying23 rfl k3 (m := 10) (by kernel_rfl) rfl) rfl rfl rfl ?_
    refine Seq.call (Enters.func rfl rfl rfl (run_enter Tryz.func12 (by kernel_rfl) rfl)) rfl rfl rfl (do_nil a hb _ (nb.step bel)) ?_
    rintro e w12 ⟨rfl, hb12⟩
    refine ⟨_, rfl, ?_⟩
    replace bel := bel.step hb12
    replace k3 := k3.step hb12
    refine Seq.val (Runs.move rfl rfl) rfl rfl rfl ?_
    refine Seq.val (Runs.extract rfl rfl rfl) rfl rfl rfl ?_
    refine Seq.val (Runs.extract rfl rfl rfl) rfl rfl rfl ?_
    refine Seq.val (Runs.assign rfl rfl) rfl rfl rfl ?_
    refine Seq.val (Runs.assign rfl rfl) rfl rfl rfl ?_
    refine Seq.nil ?_
    refine Post.weak (F' := [(0, _), (1, _), (2, _), (3, _), (6, _), (7, _), (8, _), (9, _), (10, _), (34, _)]) ⟨rfl, rfl, rfl, rfl, rfl, rfl, rfl, rfl, rfl, rfl, trivial⟩ ?_
    refine Post.then_ ?_
    refine Cd.seq ?_
    refine Cd.region ?_
    refine Seq.val (Runs.move rfl rfl) rfl rfl rfl ?_
    refine Seq.val (Runs.fieldB 2 rfl rfl Tryz.underlying23 rfl (by kernel_rfl)) rfl rfl rfl ?_
    refine Seq.val (Runs.loadB rfl rfl Tryz.underlying9 rfl k3 rfl) rfl rfl rfl ?_
    refine Seq.call (Enters.func rfl rfl rfl (run_enter Tryz.func13 (by kernel_rfl) rfl)) rfl rfl rfl (contract_nil a.i hb.i s2 _ (nb.step bel)) ?_
    rintro e w13 ⟨rfl, hb13⟩
    refine ⟨_, rfl, ?_⟩
    replace bel := bel.step hb13
    replace k3 := k3.step hb13
    refine Seq.val (Runs.move rfl rfl) rfl rfl rfl ?_
    refine Seq.val (Runs.extract rfl rfl rfl) rfl rfl rfl ?_
    refine Seq.val (Runs.extract rfl rfl rfl) rfl rfl rfl ?_
    refine Seq.alloc rfl (run_zero zero_event_Contract) rfl rfl rfl ?_
    intro g11 w3 n11
    have e11 := Nat.le_trans bel.size n11.ge
    have l11 := Nat.lt_of_lt_of_le k3.lt n11.ge
    replace bel := bel.step n11.below
    replace k3 := k3.step n11.below
    have k11 := n11.blk
    refine Seq.storeN rfl rfl rfl rfl (m := 8) (by kernel_rfl) rfl (by repeat' first | exact trivial | apply And.intro | rfl | assumption) k11 (by simp [Value.cells]) rfl rfl ?_
    intro w4 pw4
    replace bel := bel.put k11 pw4 e11
    replace k3 := k3.put pw4 (by omega)
    replace k11 := pw4.blk
    refine Seq.val (Runs.assign rfl rfl) rfl rfl rfl ?_
    refine Seq.nil ?_
    refine Post.weak (F' := [(0, _), (1, _), (2, _), (3, _), (6, _), (7, _), (8, _), (9, _), (10, _), (12, _), (34, _)]) ⟨rfl, rfl, rfl, rfl, rfl, rfl, rfl, rfl, rfl, rfl, rfl, trivial⟩ ?_
    refine Post.then_ ?_
    refine Cd.seq ?_
    refine Cd.region ?_
    refine Seq.val (Runs.move rfl rfl) rfl rfl rfl ?_
    refine Seq.val (Runs.fieldB 2 rfl rfl Tryz.underlying23 rfl (by kernel_rfl)) rfl rfl rfl ?_
    refine Seq.val (Runs.loadB rfl rfl Tryz.underlying9 rfl k3 rfl) rfl rfl rfl ?_
    refine Seq.call (Enters.func rfl rfl rfl (run_enter Tryz.func14 (by kernel_rfl) rfl)) rfl rfl rfl (filed_nil a.i hb.i s2 _ (nb.step bel)) ?_
    rintro e w14 ⟨rfl, hb14⟩
    refine ⟨_, rfl, ?_⟩
    replace bel := bel.step hb14
    replace k3 := k3.step hb14
    replace k11 := k11.step hb14
    refine Seq.val (Runs.move rfl rfl) rfl rfl rfl ?_
    refine Seq.val (Runs.extract rfl rfl rfl) rfl rfl rfl ?_
    refine Seq.val (Runs.extract rfl rfl rfl) rfl rfl rfl ?_
    refine Seq.alloc rfl (run_zero zero_event_Contract) rfl rfl rfl ?_
    intro g13 w5 n13
    have e13 := Nat.le_trans bel.size n13.ge
    have l13 := Nat.lt_of_lt_of_le k11.lt n13.ge
    have l13_k3 := Nat.lt_of_lt_of_le k3.lt n13.ge
    replace bel := bel.step n13.below
    replace k3 := k3.step n13.below
    replace k11 := k11.step n13.below
    have k13 := n13.blk
    refine Seq.storeN rfl rfl rfl rfl (m := 8) (by kernel_rfl) rfl (by repeat' first | exact trivial | apply And.intro | rfl | assumption) k13 (by simp [Value.cells]) rfl rfl ?_
    intro w6 pw6
    replace bel := bel.put k13 pw6 e13
    replace k3 := k3.put pw6 (by omega)
    replace k11 := k11.put pw6 (by omega)
    replace k13 := pw6.blk
    refine Seq.val (Runs.assign rfl rfl) rfl rfl rfl ?_
    refine Seq.nil ?_
    refine Post.weak (F' := [(0, _), (1, _), (2, _), (3, _), (6, _), (7, _), (8, _), (9, _), (10, _), (12, _), (14, _), (34, _)]) ⟨rfl, rfl, rfl, rfl, rfl, rfl, rfl, rfl, rfl, rfl, rfl, rfl, trivial⟩ ?_
    refine Post.then_ ?_
    refine Cd.seq ?_
    refine Cd.region ?_
    refine Seq.val (Runs.move rfl rfl) rfl rfl rfl ?_
    refine Seq.call (Enters.func rfl rfl rfl (run_enter Tryz.func15 (by kernel_rfl) rfl)) rfl rfl rfl (ids_nil _ (nb.step bel)) ?_
    rintro e w15 ⟨rfl, hb15⟩
    refine ⟨_, rfl, ?_⟩
    replace bel := bel.step hb15
    replace k3 := k3.step hb15
    replace k11 := k11.step hb15
    replace k13 := k13.step hb15
    refine Seq.val (Runs.move rfl rfl) rfl rfl rfl ?_
    refine Seq.val (Runs.extract rfl rfl rfl) rfl rfl rfl ?_
    refine Seq.val (Runs.extract rfl rfl rfl) rfl rfl rfl ?_
    refine Seq.val (Runs.assign rfl rfl) rfl rfl rfl ?_
    refine Seq.val (Runs.assign rfl rfl) rfl rfl rfl ?_
    refine Seq.nil ?_
    refine Post.weak (F' := [(0, _), (1, _), (2, _), (3, _), (6, _), (7, _), (8, _), (9, _), (10, _), (12, _), (14, _), (16, _), (34, _)]) ⟨rfl, rfl, rfl, rfl, rfl, rfl, rfl, rfl, rfl, rfl, rfl, rfl, rfl, trivial⟩ ?_
    refine Post.then_ ?_
    refine Cd.seq ?_
    refine Cd.region ?_
    refine Seq.val (Runs.move rfl rfl) rfl rfl rfl ?_
    refine Seq.val (Runs.fieldB 3 rfl rfl Tryz.underlying23 rfl (by kernel_rfl)) rfl rfl rfl ?_
    refine Seq.val (Runs.loadB rfl rfl Tryz.underlying9 rfl k3 rfl) rfl rfl rfl ?_
    refine Seq.val (Runs.fieldB 4 rfl rfl Tryz.underlying23 rfl (by kernel_rfl)) rfl rfl rfl ?_
    refine Seq.val (Runs.loadB rfl rfl Tryz.underlying9 rfl k3 rfl) rfl rfl rfl ?_
    refine Seq.call (Enters.func rfl rfl rfl (run_enter Tryz.func16 (by kernel_rfl) rfl)) rfl rfl rfl (bal_nil a.x a.y hb.x hb.y _ (nb.step bel)) ?_
    rintro e w16 ⟨rfl, hb16⟩
    refine ⟨_, rfl, ?_⟩
    replace bel := bel.step hb16
    replace k3 := k3.step hb16
    replace k11 := k11.step hb16
    replace k13 := k13.step hb16
    refine Seq.val (Runs.move rfl rfl) rfl rfl rfl ?_
    refine Seq.val (Runs.extract rfl rfl rfl) rfl rfl rfl ?_
    refine Seq.val (Runs.extract rfl rfl rfl) rfl rfl rfl ?_
    refine Seq.val (Runs.assign rfl rfl) rfl rfl rfl ?_
    refine Seq.val (Runs.assign rfl rfl) rfl rfl rfl ?_
    refine Seq.nil ?_
    refine Post.weak (F' := [(0, _), (1, _), (2, _), (3, _), (6, _), (7, _), (8, _), (9, _), (10, _), (12, _), (14, _), (16, _), (18, _), (34, _)]) ⟨rfl, rfl, rfl, rfl, rfl, rfl, rfl, rfl, rfl, rfl, rfl, rfl, rfl, rfl, trivial⟩ ?_
    refine Post.then_ ?_
    refine Cd.seq ?_
    refine Cd.region ?_
    refine Seq.val (Runs.move rfl rfl) rfl rfl rfl ?_
    refine Seq.call (Enters.func rfl rfl rfl (run_enter Tryz.func17 (by kernel_rfl) rfl)) rfl rfl rfl (books_nil _ (nb.step bel)) ?_
    rintro e w17 ⟨rfl, hb17⟩
    refine ⟨_, rfl, ?_⟩
    replace bel := bel.step hb17
    replace k3 := k3.step hb17
    replace k11 := k11.step hb17
    replace k13 := k13.step hb17
    refine Seq.val (Runs.move rfl rfl) rfl rfl rfl ?_
    refine Seq.val (Runs.extract rfl rfl rfl) rfl rfl rfl ?_
    refine Seq.val (Runs.extract rfl rfl rfl) rfl rfl rfl ?_
    refine Seq.val (Runs.assign rfl rfl) rfl rfl rfl ?_
    refine Seq.val (Runs.assign rfl rfl) rfl rfl rfl ?_
    refine Seq.nil ?_
    refine Post.weak (F' := [(0, _), (1, _), (2, _), (3, _), (6, _), (7, _), (8, _), (9, _), (10, _), (12, _), (14, _), (16, _), (18, _), (20, _), (34, _)]) ⟨rfl, rfl, rfl, rfl, rfl, rfl, rfl, rfl, rfl, rfl, rfl, rfl, rfl, rfl, rfl, trivial⟩ ?_
    refine Post.then_ ?_
    refine Cd.seq ?_
    refine Cd.region ?_
    refine Seq.val (Runs.move rfl rfl) rfl rfl rfl ?_
    refine Seq.val (Runs.move rfl rfl) rfl rfl rfl ?_
    refine Seq.val (Runs.move rfl rfl) rfl rfl rfl ?_
    refine Seq.call (Enters.func rfl rfl rfl (run_enter Tryz.func18 (by kernel_rfl) rfl)) rfl rfl rfl (ev_nil n m _ (nb.step bel)) ?_
    rintro e w18 ⟨rfl, hb18⟩
    refine ⟨_, rfl, ?_⟩
    replace bel := bel.step hb18
    replace k3 := k3.step hb18
    replace k11 := k11.step hb18
    replace k13 := k13.step hb18
    refine Seq.val (Runs.move rfl rfl) rfl rfl rfl ?_
    refine Seq.val (Runs.extract rfl rfl rfl) rfl rfl rfl ?_
    refine Seq.val (Runs.extract rfl rfl rfl) rfl rfl rfl ?_
    refine Seq.val (Runs.assign rfl rfl) rfl rfl rfl ?_
    refine Seq.val (Runs.assign rfl rfl) rfl rfl rfl ?_
    refine Seq.nil ?_
    refine Post.weak (F' := [(0, _), (1, _), (2, _), (3, _), (6, _), (7, _), (8, _), (9, _), (10, _), (12, _), (14, _), (16, _), (18, _), (20, _), (22, _), (34, _)]) ⟨rfl, rfl, rfl, rfl, rfl, rfl, rfl, rfl, rfl, rfl, rfl, rfl, rfl, rfl, rfl, rfl, trivial⟩ ?_
    refine Post.then_ ?_
    refine Cd.seq ?_
    refine Cd.seq ?_
    refine Cd.region ?_
    refine Seq.val (Runs.move rfl rfl) rfl rfl rfl ?_
    refine Seq.val (Runs.neqP rfl rfl rfl Tryz.underlying36) rfl rfl rfl ?_
    refine Seq.val (Runs.move rfl rfl) rfl rfl rfl ?_
    refine Seq.valG (Runs.move rfl rfl) rfl rfl rfl rfl rfl ?_
    refine Seq.valG (Runs.neqI rfl rfl rfl) rfl rfl rfl rfl rfl ?_
    refine Seq.val (Runs.pickF rfl rfl rfl) rfl rfl rfl ?_
    refine Seq.val (Runs.move rfl rfl) rfl rfl rfl ?_
    refine Seq.valG (Runs.move rfl rfl) rfl rfl rfl rfl rfl ?_
    refine Seq.valG (Runs.len rfl rfl Tryz.underlying43) rfl rfl rfl rfl rfl ?_
    refine Seq.valG (Runs.gtr rfl rfl rfl) rfl rfl rfl rfl rfl ?_
    refine Seq.val (Runs.pickF rfl rfl rfl) rfl rfl rfl ?_
    refine Seq.val (Runs.move rfl rfl) rfl rfl rfl ?_
    refine Seq.valG (Runs.move rfl rfl) rfl rfl rfl rfl rfl ?_
    refine Seq.valG (Runs.neqI rfl rfl rfl) rfl rfl rfl rfl rfl ?_
    refine Seq.val (Runs.pickF rfl rfl rfl) rfl rfl rfl ?_
    refine Seq.val (Runs.move rfl rfl) rfl rfl rfl ?_
    refine Seq.valG (Runs.move rfl rfl) rfl rfl rfl rfl rfl ?_
    refine Seq.valG (Runs.neqI rfl rfl rfl) rfl rfl rfl rfl rfl ?_
    refine Seq.val (Runs.pickF rfl rfl rfl) rfl rfl rfl ?_
    refine Seq.val (Runs.move rfl rfl) rfl rfl rfl ?_
    refine Seq.valG (Runs.move rfl rfl) rfl rfl rfl rfl rfl ?_
    refine Seq.valG (Runs.neqI rfl rfl rfl) rfl rfl rfl rfl rfl ?_
    refine Seq.val (Runs.pickF rfl rfl rfl) rfl rfl rfl ?_
    refine Seq.val (Runs.move rfl rfl) rfl rfl rfl ?_
    refine Seq.valG (Runs.move rfl rfl) rfl rfl rfl rfl rfl ?_
    refine Seq.valG (Runs.neqI rfl rfl rfl) rfl rfl rfl rfl rfl ?_
    refine Seq.val (Runs.pickF rfl rfl rfl) rfl rfl rfl ?_
    refine Seq.val (Runs.move rfl rfl) rfl rfl rfl ?_
    refine Seq.valG (Runs.move rfl rfl) rfl rfl rfl rfl rfl ?_
    refine Seq.valG (Runs.neqI rfl rfl rfl) rfl rfl rfl rfl rfl ?_
    refine Seq.val (Runs.pickF rfl rfl rfl) rfl rfl rfl ?_
    refine Seq.val (Runs.move rfl rfl) rfl rfl rfl ?_
    refine Seq.valG (Runs.move rfl rfl) rfl rfl rfl rfl rfl ?_
    refine Seq.valG (Runs.neqI rfl rfl rfl) rfl rfl rfl rfl rfl ?_
    refine Seq.val (Runs.pickF rfl rfl rfl) rfl rfl rfl ?_
    refine Seq.val (Runs.move rfl rfl) rfl rfl rfl ?_
    refine Seq.valG (Runs.move rfl rfl) rfl rfl rfl rfl rfl ?_
    refine Seq.valG (Runs.neqI rfl rfl rfl) rfl rfl rfl rfl rfl ?_
    refine Seq.val (Runs.pickF rfl rfl rfl) rfl rfl rfl ?_
    refine Seq.val (Runs.move rfl rfl) rfl rfl rfl ?_
    refine Seq.valG (Runs.move rfl rfl) rfl rfl rfl rfl rfl ?_
    refine Seq.callG (Enters.func rfl rfl rfl (run_enter Tryz.func19 (by kernel_rfl) rfl)) rfl rfl rfl rfl rfl (day_nil _ (nb.step bel)) ?_
    rintro e w19 ⟨rfl, hb19⟩
    refine ⟨_, rfl, ?_⟩
    replace bel := bel.step hb19
    replace k3 := k3.step hb19
    replace k11 := k11.step hb19
    replace k13 := k13.step hb19
    refine Seq.valG (Runs.neqI rfl rfl rfl) rfl rfl rfl rfl rfl ?_
    refine Seq.val (Runs.pickF rfl rfl rfl) rfl rfl rfl ?_
    refine Seq.val (Runs.move rfl rfl) rfl rfl rfl ?_
    refine Seq.valG (Runs.move rfl rfl) rfl rfl rfl rfl rfl ?_
    refine Seq.callG (Enters.func rfl rfl rfl (run_enter Tryz.func20 (by kernel_rfl) rfl)) rfl rfl rfl rfl rfl (count_nil _ (nb.step bel)) ?_
    rintro e w20 ⟨rfl, hb20⟩
    refine ⟨_, rfl, ?_⟩
    replace bel := bel.step hb20
    replace k3 := k3.step hb20
    replace k11 := k11.step hb20
    replace k13 := k13.step hb20
    refine Seq.valG (Runs.neqI rfl rfl rfl) rfl rfl rfl rfl rfl ?_
    refine Seq.val (Runs.pickF rfl rfl rfl) rfl rfl rfl ?_
    refine Seq.val (Runs.move rfl rfl) rfl rfl rfl ?_
    refine Seq.valG (Runs.move rfl rfl) rfl rfl rfl rfl rfl ?_
    refine Seq.callG (Enters.func rfl rfl rfl (run_enter Tryz.func21 (by kernel_rfl) rfl)) rfl rfl rfl rfl rfl (audit_nil _ (nb.step bel)) ?_
    rintro e w21 ⟨rfl, hb21⟩
    refine ⟨_, rfl, ?_⟩
    replace bel := bel.step hb21
    replace k3 := k3.step hb21
    replace k11 := k11.step hb21
    replace k13 := k13.step hb21
    refine Seq.valG (Runs.neqI rfl rfl rfl) rfl rfl rfl rfl rfl ?_
    refine Seq.val (Runs.pickF rfl rfl rfl) rfl rfl rfl ?_
    refine Seq.val (Runs.move rfl rfl) rfl rfl rfl ?_
    refine Seq.valG (Runs.move rfl rfl) rfl rfl rfl rfl rfl ?_
    refine Seq.callG (Enters.func rfl rfl rfl (run_enter Tryz.func22 (by kernel_rfl) rfl)) rfl rfl rfl rfl rfl (store_nil _ (nb.step bel)) ?_
    rintro e w22 ⟨rfl, hb22⟩
    refine ⟨_, rfl, ?_⟩
    replace bel := bel.step hb22
    replace k3 := k3.step hb22
    replace k11 := k11.step hb22
    replace k13 := k13.step hb22
    refine Seq.valG (Runs.neqP rfl rfl rfl Tryz.underlying64) rfl rfl rfl rfl rfl ?_
    refine Seq.val (Runs.pickF rfl rfl rfl) rfl rfl rfl ?_
    refine Seq.nil ?_
    refine Post.weak (F' := [(0, _), (1, _), (2, _), (3, _), (6, _), (7, _), (8, _), (9, _), (10, _), (12, _), (14, _), (16, _), (18, _), (20, _), (22, _), (34, _), (145, _)]) ⟨rfl, rfl, rfl, rfl, rfl, rfl, rfl, rfl, rfl, rfl, rfl, rfl, rfl, rfl, rfl, rfl, rfl, trivial⟩ ?_
    refine Post.then_ ?_
    refine Cd.condF rfl (by simp) ?_
    refine Cd.skip ?_
    refine Post.then_ ?_
    refine Cd.seq ?_
    refine Cd.region ?_
    have nbS := nb.step bel
    obtain ⟨y, hat⟩ := At.start nbS
    have k3S := k3
    have belS := bel
    refine Seq.call (Enters.func rfl rfl rfl (run_enter Tryz.func23 (by kernel_rfl) rfl)) rfl rfl rfl (runs_lit nbS hat (f := 23) (l := [.int .i64 1048576]) (xs := [.int .i64 1048576]) (.cons (.int _ _) .nil) .lf leaves_begin (RI.run_enter Tryz.func23 (by kernel_rfl) rfl _ _)) ?_
    rintro e w23 ⟨x23, L23, rfl, hl23, hat23, hx23⟩
    refine ⟨_, rfl, ?_⟩
    obtain ⟨aR, rfl, hAR⟩ := rv_ptr hx23
    replace hat23 : At w22 y stBS w23 L23 := hat23
    obtain ⟨R, sR, G, sG, B, sB, rfl, hR, hG, hB⟩ := rig_locs hat23 B_R rowB_E rowB_S hAR
    replace bel := bel.step hat23.rel.below
    replace k3 := k3.step hat23.rel.below
    replace k11 := k11.step hat23.rel.below
    replace k13 := k13.step hat23.rel.below
    refine Seq.val (Runs.assign rfl rfl) rfl rfl rfl ?_
    refine Seq.nil ?_
    refine Post.weak (F' := [(0, _), (1, _), (2, _), (3, _), (6, _), (7, _), (8, _), (9, _), (10, _), (12, _), (14, _), (16, _), (18, _), (20, _), (22, _), (23, _), (34, _), (145, _)]) ⟨rfl, rfl, rfl, rfl, rfl, rfl, rfl, rfl, rfl, rfl, rfl, rfl, rfl, rfl, rfl, rfl, rfl, rfl, trivial⟩ ?_
    refine Post.then_ ?_
    refine Cd.seq ?_
    refine Cd.seq ?_
    refine Cd.region ?_
    refine Seq.val (Runs.move rfl rfl) rfl rfl rfl ?_
    refine Seq.val (Runs.eqlP rfl rfl rfl Tryz.underlying66) rfl rfl rfl ?_
    refine Seq.nil ?_
    refine Post.weak (F' := [(0, _), (1, _), (2, _), (3, _), (6, _), (7, _), (8, _), (9, _), (10, _), (12, _), (14, _), (16, _), (18, _), (20, _), (22, _), (23, _), (34, _), (145, _), (148, _)]) ⟨rfl, rfl, rfl, rfl, rfl, rfl, rfl, rfl, rfl, rfl, rfl, rfl, rfl, rfl, rfl, rfl, rfl, rfl, rfl, trivial⟩ ?_
    refine Post.then_ ?_
    refine Cd.condF rfl (by simp) ?_
    refine Cd.skip ?_
    refine Post.then_ ?_
    refine Cd.seq ?_
    have hk3 : ∀ {S0 cl al g n1 L0 W}, DrX w22 y L0 S0 n1 cl al g W → Blk W g3 23 a.v.cells := fun h => k3S.step h.below
    have hcA : ∀ L W, L23.le L → At w22 y stBS W L → Calls Tryz.prog 13 #[.pointer (some ⟨G, 0, none⟩), .string (strOf a.i)] W fun e w' => e = .returned (.tuple #[conZ, .int .i64 7]) ∧ ∃ L', L.le L' ∧ At w22 y (RI.stOf stB 1000) w' L' := fun L W hle h => con_step nbS h (hle _ _ _ hG) (hle _ _ _ hB) hb.i s2 (ful_ok _) (c0 _) c0'
    have hmA : ∀ L W, L23.le L → At w22 y (more stBS cT) W L → Calls Tryz.prog 13 #[.pointer (some ⟨G, 0, none⟩), .string (strOf a.i)] W fun e w' => e = .returned (.tuple #[conZ, .int .i64 7]) ∧ ∃ L', L.le L' ∧ At w22 y (RI.stOf stB0 1000) w' L' := fun L W hle h => con_step nbS h (hle _ _ _ hG) (hle _ _ _ hB) hb.i s2 (ful_okM _) (c1 _) c1'
    refine Cd.drawG (σT := Nat) 13 (by kernel_rfl) rfl rfl (fun σ => [.pointer (some ⟨R, 0, none⟩), .pointer (some ⟨R, 0, none⟩), .pointer (some ⟨R, 1, none⟩), .pointer (some ⟨G, 0, none⟩), .pointer (some ⟨g3, 2, none⟩), .string (strOf a.i), .tuple #[conZ, .int .i64 7], .tuple #[conZ, .int .i64 7], conZ, .int .i64 7, .pointer (some ⟨σ, 0, none⟩), undef, .int .i64 7]) (fun σ S W => DrX w22 y L23 stBS 1000 (S 6) (S 10) σ W) (0) ?_ ?_ ?_
    · intro w0 hb0 hs0
      exact (DrX.start hat23).grow hb0
    · intro k o ho
      match k, ho with
      | 0, ho =>
        injection ho with ho
        subst ho
        intro σ S w hS hpre hdc hX
        refine Seq.val (Runs.move rfl rfl) rfl rfl rfl (Seq.nil ?_)
        exact Post.afterG rfl rfl rfl hpre rfl (fun _ _ => rfl) hX
      | 1, ho =>
        injection ho with ho
        subst ho
        intro σ S w hS hpre hdc hX
        refine Seq.val (Runs.nilCheck rfl rfl) rfl rfl rfl (Seq.nil ?_)
        exact Post.afterG rfl rfl rfl hpre rfl (fun _ _ => rfl) hX
      | 2, ho =>
        injection ho with ho
        subst ho
        intro σ S w hS hpre hdc hX
        refine Seq.val (Runs.fieldA 1 rfl rfl Tryz.underlying77 rfl (by kernel_rfl)) rfl rfl rfl (Seq.nil ?_)
        exact Post.afterG rfl rfl rfl hpre rfl (fun _ _ => rfl) hX
      | 3, ho =>
        injection ho with ho
        subst ho
        intro σ S w hS hpre hdc hX
        have h6 := notDone hdc (i := 6) rfl hS (memB_spec rfl)
        have hX' : DrX w22 y L23 stBS 1000 (S 6) (S 10) σ w := hX
        rw [h6] at hX'
        have hc := hX'.rig B_R BM_R hR hG
        refine Seq.val (Runs.load1 rfl rfl Tryz.underlying36 rfl hc) rfl rfl rfl (Seq.nil ?_)
        exact Post.afterG rfl rfl rfl hpre rfl (fun _ _ => rfl) hX
      | 4, ho =>
        injection ho with ho
        subst ho
        intro σ S w hS hpre hdc hX
        refine Seq.val (Runs.fieldB 2 rfl rfl Tryz.underlying23 rfl (by kernel_rfl)) rfl rfl rfl (Seq.nil ?_)
        exact Post.afterG rfl rfl rfl hpre rfl (fun _ _ => rfl) hX
      | 5, ho =>
        injection ho with ho
        subst ho
        intro σ S w hS hpre hdc hX
        refine Seq.val (Runs.loadB (g := g3) (i := 2) rfl rfl Tryz.underlying9 rfl (hk3 hX) rfl) rfl rfl rfl (Seq.nil ?_)
        exact Post.afterG rfl rfl rfl hpre rfl (fun _ _ => rfl) hX
      | 6, ho =>
        injection ho with ho
        subst ho
        intro σ S w hS hpre hdc hX
        have hX' : DrX w22 y L23 stBS 1000 (S 6) (S 10) σ w := hX
        rw [hS] at hX'
        refine Seq.call (Enters.func rfl rfl rfl (run_enter Tryz.func13 (by kernel_rfl) rfl)) rfl rfl rfl (hX'.called (by kernel_rfl) (by kernel_rfl) (fun L hle h => hcA L w hle h) (fun L hle h => hmA L w hle h)) ?_
        rintro e w6 ⟨rfl, hX6⟩
        refine ⟨_, rfl, Seq.nil ?_⟩
        exact Post.afterG (σ := σ) (σ' := σ) rfl rfl rfl hpre rfl (fun j hj => rfl) hX6
      | 7, ho =>
        injection ho with ho
        subst ho
        intro σ S w hS hpre hdc hX
        refine Seq.val (Runs.move rfl rfl) rfl rfl rfl (Seq.nil ?_)
        exact Post.afterG rfl rfl rfl hpre rfl (fun _ _ => rfl) hX
      | 8, ho =>
        injection ho with ho
        subst ho
        intro σ S w hS hpre hdc hX
        refine Seq.val (Runs.extract rfl rfl rfl) rfl rfl rfl (Seq.nil ?_)
        exact Post.afterG rfl rfl rfl hpre rfl (fun _ _ => rfl) hX
      | 9, ho =>
        injection ho with ho
        subst ho
        intro σ S w hS hpre hdc hX
        refine Seq.val (Runs.extract rfl rfl rfl) rfl rfl rfl (Seq.nil ?_)
        exact Post.afterG rfl rfl rfl hpre rfl (fun _ _ => rfl) hX
      | 10, ho =>
        injection ho with ho
        subst ho
        intro σ S w hS hpre hdc hX
        have hX' : DrX w22 y L23 stBS 1000 (S 6) (S 10) σ w := hX
        rw [hS] at hX'
        refine Seq.alloc rfl (run_zero zero_event_Contract) rfl rfl rfl ?_
        intro g' w' n'
        refine Seq.nil ?_
        refine Post.afterG (σ := σ) (σ' := g') rfl rfl rfl hpre rfl (fun j hj => ?_) (hX'.made n' rfl (by kernel_rfl) (by kernel_rfl))
        by_cases hj10 : j = 10
        · subst hj10
          rw [hS] at hj
          cases hj
        · match j, hj10 with
          | 0, _ => rfl
          | 1, _ => rfl
          | 2, _ => rfl
          | 3, _ => rfl
          | 4, _ => rfl
          | 5, _ => rfl
          | 6, _ => rfl
          | 7, _ => rfl
          | 8, _ => rfl
          | 9, _ => rfl
          | 10, h => exact absurd rfl h
          | 11, _ => rfl
          | 12, _ => rfl
          | j + 13, _ => rfl
      | 11, ho =>
        injection ho with ho
        subst ho
        intro σ S w hS hpre hdc hX
        have h10 := hpre 10 (memB_spec rfl)
        have h8 := hpre 8 (memB_spec rfl)
        have h7 := hdc 8 _ rfl h8 7 (memB_spec rfl)
        have h6 := hdc 7 _ rfl h7 6 (memB_spec rfl)
        have hX' : DrX w22 y L23 stBS 1000 (S 6) (S 10) σ w := hX
        rw [h6, h10] at hX'
        obtain ⟨C, kC, hC⟩ := hX'.blk
        obtain ⟨c0, c1, c2, c3, c4, c5, c6, c7, rfl⟩ := arr8 hC
        refine Seq.storeN rfl rfl rfl rfl (m := 8) (by kernel_rfl) rfl (by repeat' first | exact trivial | apply And.intro | rfl | assumption) kC (by simp [Value.cells]) rfl rfl ?_
        intro w' pq
        refine Seq.nil ?_
        refine Post.afterG0 (σ := σ) (σ' := σ) rfl rfl rfl (fun _ _ => rfl) ?_
        show DrX w22 y L23 stBS 1000 (S 6) (S 10) σ w'
        rw [h6, h10]
        exact hX'.put pq rfl
      | 12, ho =>
        injection ho with ho
        subst ho
        intro σ S w hS hpre hdc hX
        refine Seq.val (Runs.assign rfl rfl) rfl rfl rfl (Seq.nil ?_)
        exact Post.afterG rfl rfl rfl hpre rfl (fun _ _ => rfl) hX
      | k + 13, ho => simp at ho
    rintro g24 S24 w24 hS24 hX24
    replace hX24 : DrX w22 y L23 stBS 1000 (S24 6) (S24 10) g24 w24 := hX24
    rw [hS24 6 (by decide), hS24 10 (by decide)] at hX24
    obtain ⟨L24, hl24, hat24⟩ := hX24.ends
    replace hat24 : At w22 y S1 w24 L24 := hat24
    replace hR := hl24 _ _ _ hR
    replace hG := hl24 _ _ _ hG
    replace hB := hl24 _ _ _ hB
    clear hX24 hS24
    refine Seq.nil ?_
    refine Post.weak (F' := [(0, _), (1, _), (2, _), (3, _), (6, _), (7, _), (8, _), (9, _), (10, _), (12, _), (14, _), (16, _), (18, _), (20, _), (22, _), (23, _), (25, _), (34, _), (145, _), (148, _)]) ⟨rfl, rfl, rfl, rfl, rfl, rfl, rfl, rfl, rfl, rfl, rfl, rfl, rfl, rfl, rfl, rfl, rfl, rfl, rfl, rfl, trivial⟩ ?_
    refine Post.then_ ?_
    refine Cd.seq ?_
    have hcB : ∀ L W, L24.le L → At w22 y S1 W L → Calls Tryz.prog 14 #[.pointer (some ⟨G, 0, none⟩), .string (strOf a.i)] W fun e w' => e = .returned (.tuple #[conZ, .int .i64 7]) ∧ ∃ L', L.le L' ∧ At w22 y (RI.stOf stB 2000) w' L' := fun L W hle h => fil_step nbS h (hle _ _ _ hG) (hle _ _ _ hB) hb.i s2 (fil_ok _) (f0 _) f0'
    have hmB : ∀ L W, L24.le L → At w22 y (more S1 cT) W L → Calls Tryz.prog 14 #[.pointer (some ⟨G, 0, none⟩), .string (strOf a.i)] W fun e w' => e = .returned (.tuple #[conZ, .int .i64 7]) ∧ ∃ L', L.le L' ∧ At w22 y (RI.stOf stB1 2000) w' L' := fun L W hle h => fil_step nbS h (hle _ _ _ hG) (hle _ _ _ hB) hb.i s2 (fil_okM _) (f1 _) f1'
    refine Cd.drawG (σT := Nat) 13 (by kernel_rfl) rfl rfl (fun σ => [.pointer (some ⟨R, 0, none⟩), .pointer (some ⟨R, 0, none⟩), .pointer (some ⟨R, 1, none⟩), .pointer (some ⟨G, 0, none⟩), .pointer (some ⟨g3, 2, none⟩), .string (strOf a.i), .tuple #[conZ, .int .i64 7], .tuple #[conZ, .int .i64 7], conZ, .int .i64 7, .pointer (some ⟨σ, 0, none⟩), undef, .int .i64 7]) (fun σ S W => DrX w22 y L24 S1 2000 (S 6) (S 10) σ W) (0) ?_ ?_ ?_
    · intro w0 hb0 hs0
      exact (DrX.start hat24).grow hb0
    · intro k o ho
      match k, ho with
      | 0, ho =>
        injection ho with ho
        subst ho
        intro σ S w hS hpre hdc hX
        refine Seq.val (Runs.move rfl rfl) rfl rfl rfl (Seq.nil ?_)
        exact Post.afterG rfl rfl rfl hpre rfl (fun _ _ => rfl) hX
      | 1, ho =>
        injection ho with ho
        subst ho
        intro σ S w hS hpre hdc hX
        refine Seq.val (Runs.nilCheck rfl rfl) rfl rfl rfl (Seq.nil ?_)
        exact Post.afterG rfl rfl rfl hpre rfl (fun _ _ => rfl) hX
      | 2, ho =>
        injection ho with ho
        subst ho
        intro σ S w hS hpre hdc hX
        refine Seq.val (Runs.fieldA 1 rfl rfl Tryz.underlying77 rfl (by kernel_rfl)) rfl rfl rfl (Seq.nil ?_)
        exact Post.afterG rfl rfl rfl hpre rfl (fun _ _ => rfl) hX
      | 3, ho =>
        injection ho with ho
        subst ho
        intro σ S w hS hpre hdc hX
        have h6 := notDone hdc (i := 6) rfl hS (memB_spec rfl)
        have hX' : DrX w22 y L24 S1 2000 (S 6) (S 10) σ w := hX
        rw [h6] at hX'
        have hc := hX'.rig S1_R S1M_R hR hG
        refine Seq.val (Runs.load1 rfl rfl Tryz.underlying36 rfl hc) rfl rfl rfl (Seq.nil ?_)
        exact Post.afterG rfl rfl rfl hpre rfl (fun _ _ => rfl) hX
      | 4, ho =>
        injection ho with ho
        subst ho
        intro σ S w hS hpre hdc hX
        refine Seq.val (Runs.fieldB 2 rfl rfl Tryz.underlying23 rfl (by kernel_rfl)) rfl rfl rfl (Seq.nil ?_)
        exact Post.afterG rfl rfl rfl hpre rfl (fun _ _ => rfl) hX
      | 5, ho =>
        injection ho with ho
        subst ho
        intro σ S w hS hpre hdc hX
        refine Seq.val (Runs.loadB (g := g3) (i := 2) rfl rfl Tryz.underlying9 rfl (hk3 hX) rfl) rfl rfl rfl (Seq.nil ?_)
        exact Post.afterG rfl rfl rfl hpre rfl (fun _ _ => rfl) hX
      | 6, ho =>
        injection ho with ho
        subst ho
        intro σ S w hS hpre hdc hX
        have hX' : DrX w22 y L24 S1 2000 (S 6) (S 10) σ w := hX
        rw [hS] at hX'
        refine Seq.call (Enters.func rfl rfl rfl (run_enter Tryz.func14 (by kernel_rfl) rfl)) rfl rfl rfl (hX'.called (by kernel_rfl) (by kernel_rfl) (fun L hle h => hcB L w hle h) (fun L hle h => hmB L w hle h)) ?_
        rintro e w6 ⟨rfl, hX6⟩
        refine ⟨_, rfl, Seq.nil ?_⟩
        exact Post.afterG (σ := σ) (σ' := σ) rfl rfl rfl hpre rfl (fun j hj => rfl) hX6
      | 7, ho =>
        injection ho with ho
        subst ho
        intro σ S w hS hpre hdc hX
        refine Seq.val (Runs.move rfl rfl) rfl rfl rfl (Seq.nil ?_)
        exact Post.afterG rfl rfl rfl hpre rfl (fun _ _ => rfl) hX
      | 8, ho =>
        injection ho with ho
        subst ho
        intro σ S w hS hpre hdc hX
        refine Seq.val (Runs.extract rfl rfl rfl) rfl rfl rfl (Seq.nil ?_)
        exact Post.afterG rfl rfl rfl hpre rfl (fun _ _ => rfl) hX
      | 9, ho =>
        injection ho with ho
        subst ho
        intro σ S w hS hpre hdc hX
        refine Seq.val (Runs.extract rfl rfl rfl) rfl rfl rfl (Seq.nil ?_)
        exact Post.afterG rfl rfl rfl hpre rfl (fun _ _ => rfl) hX
      | 10, ho =>
        injection ho with ho
        subst ho
        intro σ S w hS hpre hdc hX
        have hX' : DrX w22 y L24 S1 2000 (S 6) (S 10) σ w := hX
        rw [hS] at hX'
        refine Seq.alloc rfl (run_zero zero_event_Contract) rfl rfl rfl ?_
        intro g' w' n'
        refine Seq.nil ?_
        refine Post.afterG (σ := σ) (σ' := g') rfl rfl rfl hpre rfl (fun j hj => ?_) (hX'.made n' rfl (by kernel_rfl) (by kernel_rfl))
        by_cases hj10 : j = 10
        · subst hj10
          rw [hS] at hj
          cases hj
        · match j, hj10 with
          | 0, _ => rfl
          | 1, _ => rfl
          | 2, _ => rfl
          | 3, _ => rfl
          | 4, _ => rfl
          | 5, _ => rfl
          | 6, _ => rfl
          | 7, _ => rfl
          | 8, _ => rfl
          | 9, _ => rfl
          | 10, h => exact absurd rfl h
          | 11, _ => rfl
          | 12, _ => rfl
          | j + 13, _ => rfl
      | 11, ho =>
        injection ho with ho
        subst ho
        intro σ S w hS hpre hdc hX
        have h10 := hpre 10 (memB_spec rfl)
        have h8 := hpre 8 (memB_spec rfl)
        have h7 := hdc 8 _ rfl h8 7 (memB_spec rfl)
        have h6 := hdc 7 _ rfl h7 6 (memB_spec rfl)
        have hX' : DrX w22 y L24 S1 2000 (S 6) (S 10) σ w := hX
        rw [h6, h10] at hX'
        obtain ⟨C, kC, hC⟩ := hX'.blk
        obtain ⟨c0, c1, c2, c3, c4, c5, c6, c7, rfl⟩ := arr8 hC
        refine Seq.storeN rfl rfl rfl rfl (m := 8) (by kernel_rfl) rfl (by repeat' first | exact trivial | apply And.intro | rfl | assumption) kC (by simp [Value.cells]) rfl rfl ?_
        intro w' pq
        refine Seq.nil ?_
        refine Post.afterG0 (σ := σ) (σ' := σ) rfl rfl rfl (fun _ _ => rfl) ?_
        show DrX w22 y L24 S1 2000 (S 6) (S 10) σ w'
        rw [h6, h10]
        exact hX'.put pq rfl
      | 12, ho =>
        injection ho with ho
        subst ho
        intro σ S w hS hpre hdc hX
        refine Seq.val (Runs.assign rfl rfl) rfl rfl rfl (Seq.nil ?_)
        exact Post.afterG rfl rfl rfl hpre rfl (fun _ _ => rfl) hX
      | k + 13, ho => simp at ho
    rintro g25 S25 w25 hS25 hX25
    replace hX25 : DrX w22 y L24 S1 2000 (S25 6) (S25 10) g25 w25 := hX25
    rw [hS25 6 (by decide), hS25 10 (by decide)] at hX25
    obtain ⟨L25, hl25, hat25⟩ := hX25.ends
    replace hat25 : At w22 y S2 w25 L25 := hat25
    replace hR := hl25 _ _ _ hR
    replace hG := hl25 _ _ _ hG
    replace hB := hl25 _ _ _ hB
    clear hX25 hS25
    refine Seq.nil ?_
    refine Post.weak (F' := [(0, _), (1, _), (2, _), (3, _), (6, _), (7, _), (8, _), (9, _), (10, _), (12, _), (14, _), (16, _), (18, _), (20, _), (22, _), (23, _), (25, _), (27, _), (34, _), (145, _), (148, _)]) ⟨rfl, rfl, rfl, rfl, rfl, rfl, rfl, rfl, rfl, rfl, rfl, rfl, rfl, rfl, rfl, rfl, rfl, rfl, rfl, rfl, rfl, trivial⟩ ?_
    refine Post.then_ ?_
    refine Cd.seq ?_
    refine Cd.region ?_
    refine Seq.val (Runs.move rfl rfl) rfl rfl rfl ?_
    refine Seq.val (Runs.nilCheck rfl rfl) rfl rfl rfl ?_
    refine Seq.val (Runs.fieldA 1 rfl rfl Tryz.underlying77 rfl (by kernel_rfl)) rfl rfl rfl ?_
    obtain ⟨-, hcR⟩ := hat25.row S2_R hR
    obtain ⟨m1, hm1, hr1⟩ := hcR 1 _ (by omega) rfl
    obtain ⟨a1, rfl, hA1⟩ := rv_ptr hr1
    obtain rfl := ra_own hA1 hG
    have hm1' : w25.cell? ⟨R, 1, none⟩ = some (.pointer (some ⟨G, 0, none⟩)) := hm1
    refine Seq.val (Runs.load1 rfl rfl Tryz.underlying36 rfl hm1') rfl rfl rfl ?_
    refine Seq.val (Runs.move rfl rfl) rfl rfl rfl ?_
    refine Seq.val (Runs.move rfl rfl) rfl rfl rfl ?_
    refine Seq.call (Enters.func rfl rfl rfl (run_enter Tryz.func18 (by kernel_rfl) rfl)) rfl rfl rfl (events_new nbS hat25 hG S2_E run_err n m) ?_
    rintro e w26 ⟨rfl, hb26⟩
    refine ⟨_, rfl, ?_⟩
    have bel26 : Below w.heap.size w w26 := belS.trans (hb26.mono belS.size)
    refine Seq.val (Runs.move rfl rfl) rfl rfl rfl ?_
    refine Seq.val (Runs.extract rfl rfl rfl) rfl rfl rfl ?_
    refine Seq.val (Runs.extract rfl rfl rfl) rfl rfl rfl ?_
    refine Seq.val (Runs.assign rfl rfl) rfl rfl rfl ?_
    refine Seq.val (Runs.assign rfl rfl) rfl rfl rfl ?_
    refine Seq.nil ?_
    refine Post.weak (F' := [(0, _), (1, _), (2, _), (3, _), (6, _), (7, _), (8, _), (9, _), (10, _), (12, _), (14, _), (16, _), (18, _), (20, _), (22, _), (23, _), (25, _), (27, _), (28, _), (29, _), (34, _), (145, _), (148, _)]) ⟨rfl, rfl, rfl, rfl, rfl, rfl, rfl, rfl, rfl, rfl, rfl, rfl, rfl, rfl, rfl, rfl, rfl, rfl, rfl, rfl, rfl, rfl, rfl, trivial⟩ ?_
    refine Post.then_ ?_
    refine Cd.seq ?_
    refine Cd.region ?_
    refine Seq.val (Runs.move rfl rfl) rfl rfl rfl ?_
    refine Seq.val (Runs.eqlI rfl rfl rfl) rfl rfl rfl ?_
    refine Seq.val (Runs.move rfl rfl) rfl rfl rfl ?_
    refine SeqC.start ?_
    refine SeqC.open rfl rfl rfl rfl rfl rfl rfl (fun hcx => Runs.move rfl rfl) ?_
    refine SeqC.next rfl rfl rfl rfl rfl rfl rfl (fun hcx => Runs.eqlI rfl rfl rfl) ?_
    refine SeqC.and rfl rfl rfl rfl rfl rfl rfl ?_
    refine Seq.val (Runs.move rfl rfl) rfl rfl rfl ?_
    refine SeqC.start ?_
    refine SeqC.open rfl rfl rfl rfl rfl rfl rfl (fun hcx => Runs.move rfl rfl) ?_
    refine SeqC.next rfl rfl rfl rfl rfl rfl rfl (fun hcx => Runs.len rfl rfl Tryz.underlying59) ?_
    refine SeqC.next rfl rfl rfl rfl rfl rfl rfl (fun hcx => Runs.eqlI rfl rfl rfl) ?_
    refine SeqC.and rfl rfl rfl rfl rfl rfl rfl ?_
    refine Seq.val (Runs.move rfl rfl) rfl rfl rfl ?_
    refine SeqC.start ?_
    refine SeqC.open rfl rfl rfl rfl rfl rfl rfl (fun hcx => Runs.move rfl rfl) ?_
    refine SeqC.next rfl rfl rfl rfl rfl rfl rfl (fun hcx => Runs.eqlI rfl rfl rfl) ?_
    refine SeqC.next rfl rfl rfl rfl rfl rfl rfl (fun hcx => Runs.move rfl rfl) ?_
    refine SeqC.next rfl rfl rfl rfl rfl rfl rfl (fun hcx => Runs.lss rfl rfl rfl) ?_
    refine SeqC.next rfl rfl rfl rfl rfl rfl rfl (fun hcx => Runs.move rfl rfl) ?_
    refine SeqC.open rfl rfl rfl rfl rfl rfl rfl (fun hcx => Runs.move rfl rfl) ?_
    refine SeqC.next rfl rfl rfl rfl rfl rfl rfl (fun hcx => Runs.lss rfl rfl rfl) ?_
    refine SeqC.orG rfl rfl rfl rfl rfl rfl rfl rfl rfl rfl rfl ?_
    refine SeqC.next rfl rfl rfl rfl rfl rfl rfl (fun hcx => Runs.eqlB rfl rfl rfl Tryz.underlying4) ?_
    refine SeqC.and rfl rfl rfl rfl rfl rfl rfl ?_
    refine Seq.val (Runs.move rfl rfl) rfl rfl rfl ?_
    refine SeqC.start ?_
    refine SeqC.openC rfl rfl rfl rfl rfl rfl rfl (fun hcx => Enters.func rfl rfl rfl (run_enter Tryz.func7 (by kernel_rfl) rfl)) (fun hcx => awake26_any _ (nb.step bel26)) ?_
    intro w7 hw7
    refine SeqC.and rfl rfl rfl rfl rfl rfl rfl ?_
    refine Seq.val (Runs.assign rfl rfl) rfl rfl rfl ?_
    refine Seq.nil ?_
    refine Post.weak (F' := [(0, _), (1, _), (2, _), (3, _), (6, _), (7, _), (8, _), (9, _), (10, _), (12, _), (14, _), (16, _), (18, _), (20, _), (22, _), (23, _), (25, _), (27, _), (28, _), (29, _), (34, _), (145, _), (148, _)]) ⟨rfl, rfl, rfl, rfl, rfl, rfl, rfl, rfl, rfl, rfl, rfl, rfl, rfl, rfl, rfl, rfl, rfl, rfl, rfl, rfl, rfl, rfl, rfl, trivial⟩ ?_
    refine Post.then_ ?_
    refine Cd.ret ?_
    refine Post.end1 rfl rfl (.inl rfl) ?_
    have hv : (decide (evErr n m = 1) = (decide (n < 0) || decide (m < 0))) := by
      unfold evErr
      by_cases h1 : n < 0 <;> by_cases h2 : m < 0 <;> simp [h1, h2]
    refine ⟨by rw [hv]; simp, ?_⟩
    exact bel26.trans (Below.mono hw7 bel26.size)
end Go.Proofs.YtenikchlnfhikaaGreatDoor

