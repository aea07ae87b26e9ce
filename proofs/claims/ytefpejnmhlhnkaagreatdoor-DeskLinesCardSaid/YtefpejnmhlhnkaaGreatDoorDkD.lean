/-
  What a row's laid variables give the walks; arguments opened. No condition.
-/
import Derived.Test.YtefpejnmhlhnkaaGreatDoorDnD
import Derived.Test.YtefpejnmhlhnkaaGreatDoorTOpen
import Derived.Test.YtefpejnmhlhnkaaGreatDoorGrE
import Derived.Test.YtefpejnmhlhnkaaGreatDoorGrD
import Derived.ProofKit
import Derived.LaidMore
import Derived.OpenShut
import Derived.Lib.LaidTab
import Derived.Shelf.Vars
namespace Go.Proofs.YtefpejnmhlhnkaaGreatDoor
open Go.ChangeShapes Go.WideShapes Go.ChangeAt Go.Deep Go.RowKit

theorem laid_tail {P : Program} {W : World} {x : String × DataW Unit} {rest : List (String × DataW Unit)} (h : laidMet P (x :: rest) W) : laidMet P rest W := by
  obtain ⟨ps, ⟨g, t, cs, fuel, p, q, h1, h2, h3, h4, h5, rfl⟩, hn, hi⟩ := h
  exact ⟨q, h5, (List.nodup_append.1 hn).2.1, fun b off hm => hi b off (List.mem_append_right _ hm)⟩
theorem iface_of_trod {P : Program} {w : World} {base fuel : Nat} {sp : Nat → Bool} {enc : TypeId × Value → Unit} {t : TypeId} {ms : Array String} {cs : List Value} {name : String} {d : DataW Unit} {p : List MemPlace} (ht : ∃ x, P.underlying t = some (.interface x)) (h : DataW.trod enc P w base sp false fuel t cs = some (.iface name d, p)) : ∃ u v, cs = [.iface u v] := by
  obtain ⟨x, ht⟩ := ht
  cases fuel with
  | zero => simp [DataW.trod] at h
  | succ n =>
    unfold DataW.trod at h
    rw [ht] at h
    split at h <;> simp_all
theorem gv_of_laid {W : World} (h : laidMetH Tryz.prog laidL W) (hs : W.ShapedOpen Tryz.prog) : Nb W := by
  rw [MakeChecks.laidMetH_plain _ _ _ (by kernel_rfl)] at h
  have h0 := h
  have h5 := laid_tail (laid_tail (laid_tail (laid_tail (laid_tail (show laidMet Tryz.prog (_ :: _ :: _ :: _ :: _ :: _) W from h)))))
  have tn : Lib.TabIs Tryz.prog W "debenture/crc.nibbles" .u32 (crcT.map Int.ofNat) := Lib.tabIs_of_head (rest := _) (g := 3) (by kernel_rfl) (by kernel_rfl) Tryz.underlying718 Tryz.underlying461 (by kernel_rfl) (by kernel_rfl) h5
  refine ⟨?_, fun i hi => ?_⟩
  · obtain ⟨ps, ⟨g', t', cs, fuel, p, q, hg', ht', hvar, hd, _, _⟩, _⟩ := (show laidMet Tryz.prog (("strconv.ErrSyntax", Rows.laid_strconv_ErrSyntax) :: _) W from h0)
    have hg : Tryz.prog.globalNamed "strconv.ErrSyntax" = some 1 := by kernel_rfl
    have hty : (Tryz.prog.globals[1]?).map (·.type) = some 331 := by kernel_rfl
    obtain rfl := Option.some.inj (hg.symm.trans hg')
    obtain rfl := Option.some.inj (hty.symm.trans ht')
    obtain ⟨u, v, hcs⟩ := iface_of_trod (ms := #[]) ⟨_, Tryz.underlying331⟩ (show DataW.trod _ _ _ _ _ _ _ _ _ = some (.iface _ _, p) from hd)
    refine ⟨.iface u v, ?_, rfl⟩
    have := World.var?_cell hg hvar 0
    rw [this]
    have : cs = #[.iface u v] := by rw [← hcs]
    rw [this]
    rfl
  · rw [tn.cell (g := 3) (by kernel_rfl) i (by rw [List.length_map]; exact hi)]
    congr 2
    have : ∀ i, i < 16 → (crcT.map Int.ofNat).getD i 0 = ((crcT.getD i 0 : Nat) : Int) := by decide
    exact this i hi
theorem choose_at {α : Type} (n : Nat) (p : Nat → α → Prop) (h : ∀ i, i < n → ∃ f, p i f) : ∃ l : List α, l.length = n ∧ ∀ i f, l[i]? = some f → p i f := by
  induction n with
  | zero => exact ⟨[], rfl, fun i f hf => by simp at hf⟩
  | succ n ih =>
    obtain ⟨l, hl, hp⟩ := ih fun i hi => h i (by omega)
    obtain ⟨x, hx⟩ := h n (by omega)
    refine ⟨l ++ [x], by simp [hl], fun i f hf => ?_⟩
    rcases Nat.lt_or_ge i l.length with h1 | h1
    · rw [List.getElem?_append_left h1] at hf
      exact hp i f hf
    · rw [List.getElem?_append_right h1] at hf
      have h2 : i - l.length = 0 := by
        rcases Nat.eq_zero_or_pos (i - l.length) with h2 | h2
        · exact h2
        · rw [List.getElem?_eq_none (by simp; omega)] at hf; cases hf
      rw [h2] at hf
      injection hf with hf
      subst hf
      have : i = n := by omega
      subst this
      exact hx
set_option maxRecDepth 100000 in
set_option maxHeartbeats 4000000 in
theorem open_acts28 {H : Type} {enc : TypeId × Value → H} {W : World} {base : Nat} {v : Value} {d : DataW H} {p : List MemPlace} (hv : Value.okWide Tryz.prog W .any base 22 v)
    (h : DataW.Trod enc Tryz.prog W 0 (fun _ => true) true 22 v d p) : ∃ A len cap l, v = .slice A len cap ∧ Reads W W.heap.size 2 A len (Ac l) := by
  obtain ⟨A, len, cap, rfl⟩ := okWide_slice Tryz.underlying22 hv
  obtain ⟨m, hm⟩ := h
  rcases open_slice Tryz.underlying22 hm with ⟨hcs, -⟩ | ⟨a, len', cap', k, n, D, Pl, hcs, -, hlc, -, hk, -, hf⟩
  · simp [Value.cells] at hcs
    obtain ⟨rfl, rfl, rfl⟩ := hcs
    exact ⟨none, 0, 0, [], rfl, Reads.none_⟩
  · simp only [if_true] at hk
    simp [Value.cells] at hcs
    obtain ⟨rfl, rfl, rfl⟩ := hcs
    have hC : Tryz.prog.cellsOf 28 = 2 := by kernel_rfl
    have ci : Tryz.prog.cellsOf 3 = 1 := by kernel_rfl
    rw [hC] at hf
    obtain ⟨l, hl, hp⟩ := choose_at len (fun i (x : Int × Int) => W.cell? (a.add (i * 2)) = some (.int .i64 x.1) ∧ W.cell? (a.add (i * 2 + 1)) = some (.int .i64 x.2)) fun i hi => by
      obtain ⟨cs', hc, ht⟩ := hf i (by omega)
      obtain ⟨xs, n0, -, -, hlenc, hlen, hfj⟩ := DataW.trod_struct Tryz.underlying28 ht
      obtain ⟨_, _, hat⟩ := World.cells?_some hc
      have hlenc := hlenc.trans hC
      match cs', hlenc with
      | [c0, c1], _ =>
        match xs, hlen with
        | [y0, y1], _ =>
          have t0 := hfj 0 _ rfl
          have t1 := hfj 1 _ rfl
          simp [ci] at t0 t1
          obtain ⟨x0, e0, -, w0⟩ := DataW.trod_int Tryz.underlying3 t0
          obtain ⟨x1, e1, -, w1⟩ := DataW.trod_int Tryz.underlying3 t1
          simp at e0 e1
          subst e0 e1
          have h0 := hat (i := 0) (by omega)
          have h1 := hat (i := 1) (by omega)
          rw [add_of_add] at h0 h1
          exact ⟨(x0, x1), h0, h1⟩
    refine ⟨some a, len, cap, l, rfl, by rw [Ac_len, hl], fun hpos => ⟨a, rfl, ?_, fun j u hu => ?_⟩⟩
    · obtain ⟨x, hx⟩ : ∃ x, l[0]? = some x := ⟨_, List.getElem?_eq_getElem (by omega)⟩
      have := World.block_lt_of_cell? W _ (hp 0 x hx).1
      rwa [block_of_add] at this
    · have hj : j < l.length * 2 := by rw [← Ac_len]; exact (List.getElem?_eq_some_iff.1 hu).1
      have hx : l[j / 2]? = some (l[j / 2]'(by omega)) := List.getElem?_eq_getElem (by omega)
      obtain ⟨g1, g2⟩ := Ac_get l _ _ hx
      obtain ⟨q1, q2⟩ := hp _ _ hx
      rcases Nat.mod_two_eq_zero_or_one j with hm | hm
      · have e : j = j / 2 * 2 := by omega
        rw [← e] at g1 q1
        rw [hu] at g1
        rw [q1, g1]
      · have e : j = j / 2 * 2 + 1 := by omega
        rw [← e] at g2 q2
        rw [hu] at g2
        rw [q2, g2]
set_option maxRecDepth 100000 in
set_option maxHeartbeats 4000000 in
theorem open_ask26 {H : Type} {enc : TypeId × Value → H} {W : World} {base : Nat} {v : Value} {d : DataW H} {p : List MemPlace} (hv : Value.okWide Tryz.prog W .any base 36 v)
    (h : DataW.Trod enc Tryz.prog W 0 (fun _ => true) true 36 v d p) : ∃ a : As, v = a.v ∧ ∀ x ∈ a.t, x < 256 := by
  obtain ⟨cs, rfl, hsz⟩ := okWide_struct Tryz.underlying36 hv
  have hC : Tryz.prog.cellsOf 36 = 10 := by kernel_rfl
  have ci : Tryz.prog.cellsOf 3 = 1 := by kernel_rfl
  have cs' : Tryz.prog.cellsOf 9 = 1 := by kernel_rfl
  have cl : Tryz.prog.cellsOf 2 = 1 := by kernel_rfl
  obtain ⟨l⟩ := cs
  have hsz := hsz.trans hC
  match l, hsz with
  | [c0, c1, c2, c3, c4, c5, c6, c7, c8, c9], _ =>
    obtain ⟨fuel, hf⟩ := h
    obtain ⟨xs, n, -, -, -, hlen, hfj⟩ := DataW.trod_struct Tryz.underlying36 hf
    match xs, hlen with
    | [y0, y1, y2, y3, y4, y5, y6, y7, y8, y9], _ =>
      have t0 := hfj 0 _ rfl
      have t1 := hfj 1 _ rfl
      have t2 := hfj 2 _ rfl
      have t3 := hfj 3 _ rfl
      have t4 := hfj 4 _ rfl
      have t5 := hfj 5 _ rfl
      have t6 := hfj 6 _ rfl
      have t7 := hfj 7 _ rfl
      have t8 := hfj 8 _ rfl
      have t9 := hfj 9 _ rfl
      simp [Value.cells, ci, cs', cl] at t0 t1 t2 t3 t4 t5 t6 t7 t8 t9
      obtain ⟨x0, e0, -, -⟩ := DataW.trod_int Tryz.underlying3 t0
      obtain ⟨x1, e1, -⟩ := DataW.trod_string Tryz.underlying9 t1
      obtain ⟨x2, e2, -⟩ := DataW.trod_string Tryz.underlying9 t2
      obtain ⟨x3, e3, -⟩ := DataW.trod_string Tryz.underlying9 t3
      obtain ⟨x4, e4, -⟩ := DataW.trod_string Tryz.underlying9 t4
      obtain ⟨x5, e5, -⟩ := DataW.trod_string Tryz.underlying9 t5
      obtain ⟨x6, e6, -, -⟩ := DataW.trod_int Tryz.underlying3 t6
      obtain ⟨x7, e7, -, -⟩ := DataW.trod_int Tryz.underlying3 t7
      obtain ⟨x8, e8, -, -⟩ := DataW.trod_int Tryz.underlying3 t8
      obtain ⟨x9, e9, -, -⟩ := DataW.trod_int Tryz.underlying2 t9
      simp at e0 e1 e2 e3 e4 e5 e6 e7 e8 e9
      subst e0 e1 e2 e3 e4 e5 e6 e7 e8 e9
      exact ⟨⟨x0, bytesOf x1, bytesOf x2, bytesOf x3, bytesOf x4, bytesOf x5, x6, x7, x8, x9⟩, by simp only [As.v, As.cs, strOf_bytesOf], fun x hx => bytesOf_lt x5 x hx⟩
set_option maxRecDepth 100000 in
set_option maxHeartbeats 4000000 in
theorem open_chore {H : Type} {enc : TypeId × Value → H} {W : World} {base : Nat} {v : Value} {d : DataW H} {p : List MemPlace} (hv : Value.okWide Tryz.prog W .any base 37 v)
    (h : DataW.Trod enc Tryz.prog W 0 (fun _ => true) true 37 v d p) : ∃ c1 c2, v = .agg #[.int .i64 c1, .int .i64 c2] := by
  obtain ⟨cs, rfl, hsz⟩ := okWide_struct Tryz.underlying37 hv
  have hC : Tryz.prog.cellsOf 37 = 2 := by kernel_rfl
  have ci : Tryz.prog.cellsOf 3 = 1 := by kernel_rfl
  obtain ⟨l⟩ := cs
  have hsz := hsz.trans hC
  match l, hsz with
  | [c0, c1], _ =>
    obtain ⟨fuel, hf⟩ := h
    obtain ⟨xs, n, -, -, -, hlen, hfj⟩ := DataW.trod_struct Tryz.underlying37 hf
    match xs, hlen with
    | [y0, y1], _ =>
      have t0 := hfj 0 _ rfl
      have t1 := hfj 1 _ rfl
      simp [Value.cells, ci] at t0 t1
      obtain ⟨x0, e0, -, -⟩ := DataW.trod_int Tryz.underlying3 t0
      obtain ⟨x1, e1, -, -⟩ := DataW.trod_int Tryz.underlying3 t1
      simp at e0 e1
      subst e0 e1
      exact ⟨_, _, rfl⟩
/-- The wrap for rows that list variables, with what the world's shape says handed on. -/
theorem lift_laid {H : Type} {enc : TypeId × Value → H} {a : Assume} {C : Checked} {os : Os} {f : FuncId} {fn : Func} {s : ChangeSpec} {X : World → Array Value → Prop} {apart fresh handsOn again : Bool}
    (hX : ∀ (w w' : World) (args : Array Value), w.heap = w'.heap → X w args → X w' args) (own : ownKnob C.prog.godebug = none) (started : os.Started) (hi : C.prog.inits.idxOf? f = none) (hfn : C.prog.funcs[f]? = some fn)
    (wit : ∃ (w : World) (tape : Tape) (i : Input), w.os = os ∧ (w.forCall tape i).Shaped C.prog ∧ i.vars = [] ∧ Input.okWide C.prog (w.forCall tape i) .any w.heap.size f i ∧
      ((s.pre enc C.prog fn [] apart (w.forCall tape i).memory i.args ∧ X (w.forCall tape i).memory i.args) ∧ sizedMet enc C.prog fn (OpenSpec.ofChange s) apart (w.forCall tape i).memory i.args) ∧ a.holds C.prog (lone (Frame.enter C.prog f i.args .normal) [] (w.forCall tape i)))
    (walk : ∀ (W : World) (base : Nat) (args : Array Value) (ds gs : List (DataW H)) (before : List MemPlace), (∀ (j : Nat) t v, fn.params[j]? = some t → args[j]? = some v → Value.okWide C.prog W .any base t v) →
      DataW.Whole enc C.prog fn.params.toList s.vars apart W args.toList ds gs before → X W args → W.ShapedOpen C.prog →
      Calls C.prog f args W fun e W' => ∃ v, e = .returned v ∧ s.post enc C.prog fn apart fresh handsOn again W args v W') :
    ReturnsInHanded a C os f .any (fun w args => (s.pre enc C.prog fn [] apart w args ∧ X w args) ∧ sizedMet enc C.prog fn (OpenSpec.ofChange s) apart w args) (s.post enc C.prog fn apart fresh handsOn again) := by
  refine returnsInHanded_of_calls own started hi wit fun w tape i _ hsh _ hok hp _ => ?_
  obtain ⟨⟨⟨ds, gs, before, hw, -⟩, hx⟩, -⟩ := hp
  obtain ⟨_, _, _, fn', hfn', _, _, _, _, hval⟩ := hok
  obtain rfl : fn' = fn := Option.some.inj (hfn'.symm.trans hfn)
  refine (walk _ _ _ ds gs before hval (DataW.Whole.of_heap (by rfl) hw) (hX _ _ _ (by rfl) hx) hsh).mono fun e W' he => ?_
  obtain ⟨v, rfl, hp⟩ := he
  exact ChangeSpec.post_blind hp
theorem own : ownKnob Tryz.prog.godebug = none := by kernel_rfl
end Go.Proofs.YtefpejnmhlhnkaaGreatDoor
