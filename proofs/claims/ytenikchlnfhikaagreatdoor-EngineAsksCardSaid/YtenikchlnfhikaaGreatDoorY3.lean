/-
  Texts that were joined: IM1. Conditions: what each theorem names.
-/
import Derived.Test.YtenikchlnfhikaaGreatDoorY2
import Derived.Laws.BytesString
import Derived.Lib.UnsafeStr
import Derived.Lib.Builder
import Derived.Tactics
import Derived.Maps.RangeRun
import Derived.Lib.OthersKept
import Derived.Conc.LoneSelect
import Derived.Defers
set_option linter.unusedSectionVars false
set_option linter.unusedVariables false
set_option linter.unusedSimpArgs false
set_option linter.unusedVariables false
namespace Go.RI
open Go Go.RowKit
section
variable {P : Program} {T : Tb} {ρ : Env} {w0 w : World} {L : Loc} {s s' : St} {m : Fm} {v : V} {r : Operand → Value} {o : Oper}

/-- Operations that make one new thing. -/
def Made (P : Program) (ρ : Env) (w0 : World) (L : Loc) (r : Operand → Value) (o : Oper) (w : World) (s : St) (v : V) (s' : St) : Prop :=
  ∃ ob vf, v = vf s.nx ∧ s' = ⟨s.h.put s.nx ob, s.nx + 1⟩ ∧ ob.g = 0 ∧ Alloc P ρ w0 L r o w ob vf
theorem Made.good (h : Rel ρ w0 L s w) (hm : Made P ρ w0 L r o w s v s') : Good P ρ w0 L r o w v s' := by
  obtain ⟨ob, vf, rfl, rfl, hg, ha⟩ := hm
  exact .alloc h hg ha
theorem op_makeSlice {t : TypeId} {a b : Operand} (hc : Ctx P T ρ w0) (ho : o.op = .makeSlice t a b) (hr : Opd ρ L m r o.op.operands) (e : on (ev m a) Rv.no (fun a => on (ev m b) Rv.no fun b => mkS T t a b s) = .ok v s') : Made P ρ w0 L r o w s v s' := by
  replace e := on_ok e
  obtain ⟨x, hx, e⟩ := e
  replace e := on_ok e
  obtain ⟨y, hy, e⟩ := e
  have hxv := hr a (by simp [ho, Op.operands]) _ hx
  have hyv := hr b (by simp [ho, Op.operands]) _ hy
  unfold mkS at e
  split at e
  · rename_i el hu
    replace e := on_ok e
    obtain ⟨n, hn, e⟩ := e
    replace e := on_ok e
    obtain ⟨c, hcc, e⟩ := e
    replace e := on_ok e
    obtain ⟨z, hz, e⟩ := e
    replace e := on_ok e
    obtain ⟨i, hi, e⟩ := e
    replace e := cd_ok e
    obtain ⟨h1, e⟩ := e
    obtain ⟨h1, h2⟩ := an_true h1
    obtain ⟨h1, h3⟩ := an_true h1
    obtain ⟨h4, h5⟩ := an_true h2
    obtain ⟨h5, h6⟩ := an_true h5
    have h1 := Nat.le_of_ble_eq_true h1
    have h3 : i.bytes * c ≤ 100000000 := Nat.le_of_ble_eq_true h3
    have h4 := beq_iff.1 h4
    have h5 := Nat.blt_eq.mp h5
    have h6 := Nat.blt_eq.mp h6
    rw [len_eq] at h4
    obtain ⟨kx, ex⟩ := natI_rv hn hxv
    obtain ⟨ky, ey⟩ := natI_rv hcc hyv
    obtain ⟨i', z', g1, g2, g3, g4, -⟩ := zer_spec hc hz
    rw [hi] at g3
    injection g3 with g3
    subst g3
    have hzc := (g4 L).cs hc.un
    have hzl := hzc.length
    have hsz : z'.cells.size = i.size := by simp at hzl; omega
    rw [rep_eq, mk_eq] at e
    have hrun : (execOp r o).run P w = .ok (.value (.slice (some ⟨w.heap.size, 0, none⟩) n c)) (w.alloc (.cells ((List.replicate n z'.cells.toList).flatten ++ (List.replicate (c - n) z'.cells.toList).flatten).toArray el)) := by
      have hmk := run_make (P := P) w t el i z' (und_spec hc hu) g1 g2 kx ky n c (by omega) (by omega) (by omega) (by omega)
      unfold execOp
      simp only [ho, ex, ey]
      simp only [Sem.run_bind, hmk, Result.andThen_ok, Sem.run_pure]
      have : madeCells z'.cells ((c : Int).toNat * i.size) = ((List.replicate n z'.cells.toList).flatten ++ (List.replicate (c - n) z'.cells.toList).flatten).toArray := by
        apply Array.ext'
        rw [Int.toNat_natCast, ← hsz, made_eq (by omega)]
        rw [← List.flatten_append, List.replicate_append_replicate, show n + (c - n) = c by omega]
      rw [this]
      simp
    have hlen : ((List.replicate n z'.cells.toList).flatten ++ (List.replicate (c - n) z'.cells.toList).flatten).length = c * i.size := by
      simp only [List.length_append, List.length_flatten, List.map_replicate, List.sum_replicate_nat, Array.length_toList, hsz]
      rw [← Nat.add_mul, show n + (c - n) = c by omega]
    have fin : ∀ (vf : Nat → V), (∀ (L' : Loc) b, L.le L' → L' b 0 = some (w.heap.size, 0, c * i.size) → RV ρ L' (vf b) (.slice (some ⟨w.heap.size, 0, none⟩) n c)) → v = vf s.nx → s' = ⟨s.h.put s.nx (.row el (List.replicate n z.cs).flatten.length 0 0 (wrT (List.replicate n z.cs).flatten 0 .lf)), s.nx + 1⟩ → Made P ρ w0 L r o w s v s' := by
      intro vf hvf hv hs
      exact ⟨_, vf, hv, hs, rfl, .rowG (xf := fun B => .slice (some ⟨B, 0, none⟩) n c) (hzc.rep n) rfl hrun (fun L' b hl hb => hvf L' b hl (by rw [hlen] at hb; exact hb))⟩
    cases hnc : Nat.beq n c with
    | true =>
      rw [hnc, cd_true] at e
      obtain ⟨e1, e2⟩ := ok_inj e
      have := beq_iff.1 hnc
      subst this
      exact fin (fun b => .sl (some (.own b 0 0)) n n) (fun L' b hl hb => .sl (by simpa using RA.own (o := 0) hb) (Nat.le_refl _)) e1.symm e2.symm
    | false =>
      rw [hnc, cd_false] at e
      obtain ⟨e1, e2⟩ := ok_inj e
      exact fin (fun b => .sg (.own b 0 0) n i.size) (fun L' b hl hb => by simpa using RV.sg (ρ := ρ) (o := 0) (w := i.size) hb h1 (by omega)) e1.symm e2.symm
  · cases e
theorem op_buildSlice {t : TypeId} {n : Nat} {ps : Array (Nat × Operand)} (hc : Ctx P T ρ w0) (ho : o.op = .buildSlice t n ps) (hr : Opd ρ L m r o.op.operands) (e : bldL T t n ps.toList m s = .ok v s') : Made P ρ w0 L r o w s v s' := by
  have hro : ∀ x ∈ ps.toList.map (·.2), ∀ u, ev m x = some u → RV ρ L u (r x) := fun x hx => hr x (by simpa [ho, Op.operands] using hx)
  have hmap : (ps.map fun (i, x) => (i, r x)).toList = ps.toList.map fun x => (x.1, r x.2) := by simp
  unfold bldL at e
  split at e
  · rename_i el hu
    replace e := on_ok e
    obtain ⟨wd, hw, e⟩ := e
    replace e := on_ok e
    obtain ⟨z, hz, e⟩ := e
    replace e := cd_ok e
    obtain ⟨h1, e⟩ := e
    obtain ⟨h1, h3⟩ := an_true h1
    obtain ⟨h1, h2⟩ := an_true h1
    have h1 : n * wd ≤ 100000 := Nat.le_of_ble_eq_true h1
    have h2 := beq_iff.1 h2
    have h3 := Nat.blt_eq.mp h3
    rw [len_eq] at h2
    obtain ⟨i, hi, rfl⟩ := siz_spec hc hw
    obtain ⟨i', z', g1, g2, g3, g4, -⟩ := zer_spec hc hz
    rw [hi] at g1
    injection g1 with g1
    subst g1
    have hzc := (g4 L).cs hc.un
    have hzl := hzc.length
    have hsz : z'.cells.size = i.size := by simp at hzl; omega
    have fin : ∀ {l : List V} {ys : List Value}, RVs ρ L l ys → v = .sl (some (.own s.nx 0 0)) n n → s' = ⟨s.h.put s.nx (.row el l.length 0 0 (wrT l 0 .lf)), s.nx + 1⟩ → (Instr.buildSlice t n (ps.map fun (i, x) => (i, r x))).run P w = .ok (.slice (some ⟨w.heap.size, 0, none⟩) n n) (w.alloc (.cells ys.toArray el)) → Made P ρ w0 L r o w s v s' := by
      intro l ys k1 k2 k3 k4
      refine ⟨_, fun b => .sl (some (.own b 0 0)) n n, k2, k3, rfl, .row (xf := fun B => .slice (some ⟨B, 0, none⟩) n n) k1 rfl ?_ (fun L' b hl hb => .sl (by simpa using RA.own (o := 0) hb) (Nat.le_refl _))⟩
      unfold execOp
      simp only [ho, Sem.run_bind, k4, Result.andThen_ok, Sem.run_pure]
    cases hn0 : Nat.beq n 0 with
    | true =>
      rw [hn0, cd_true] at e
      have := beq_iff.1 hn0
      subst this
      cases hps : ps.toList with
      | cons p q => rw [hps] at e; cases e
      | nil =>
        rw [hps] at e
        replace e : mk s el [] 0 (fun b s => Rv.ok (.sl (some (.own b 0 0)) 0 0) s) = .ok v s' := e
        rw [mk_eq] at e
        obtain ⟨e1, e2⟩ := ok_inj e
        refine fin (.nil) e1.symm e2.symm ?_
        have hps' : ps = #[] := Array.ext' hps
        subst hps'
        simp [Instr.buildSlice, run_underlying (und_spec hc hu), run_size hc hw, Instr.fill, newRow, newObj]
        have : Array.map (fun (_ : Nat) => (default : Value)) (Array.range 0) = #[] := Array.eq_empty_of_size_eq_zero (by simp)
        rw [this]
        rfl
    | false =>
      rw [hn0, cd_false, rep_eq] at e
      have hn1 : n ≠ 0 := fun q => by rw [q] at hn0; cases hn0
      obtain ⟨l, ys, k1, k2, k3⟩ := fillA_spec hc e (hzc.rep n) hro
      rw [mk_eq] at k1
      obtain ⟨e1, e2⟩ := ok_inj k1
      refine fin k2 e1.symm e2.symm ?_
      refine run_buildSlice w t el n _ ys.toArray i z' (und_spec hc hu) hi g2 (by omega) (Nat.ne_of_gt (Nat.mul_pos (by omega) h3)) ?_
      rw [hmap]
      have : ((Array.range (n * i.size)).map (z'.cells[· % z'.cells.size]!)) = ((List.replicate n z'.cells.toList).flatten).toArray := by
        apply Array.ext'
        rw [← hsz]
        exact made_eq (by omega) n
      rw [this]
      exact k3
  · cases e
theorem op_makeMap {t : TypeId} {q : Option Operand} (ho : o.op = .makeMap t q) (hq : q = none) (e : mkO s (.map [] 0) (fun b s => Rv.ok (.mp (some b)) s) = .ok v s') : Made P ρ w0 L r o w s v s' := by
  subst hq
  rw [mkO_eq] at e
  obtain ⟨e1, e2⟩ := ok_inj e
  refine ⟨.map [] 0, fun b => .mp (some b), e1.symm, e2.symm, rfl, .map #[] 0, fun B => .map (some B), 0, ?_, fun b hb hw => ⟨?_, .mp (Loc.put_self _ _ _ _)⟩⟩
  · unfold execOp
    simp only [ho]
    simp [Instr.makeMap, newObj]
    rfl
  · intro B base sz e
    rw [Loc.put_self] at e
    injection e with e
    injection e with e1 e2
    injection e2 with e2 e3
    subst e1 e2 e3
    refine ⟨hw, rfl, #[], ?_, .nil⟩
    show (w.heap.push _)[w.heap.size]? = _
    simp
theorem op_makeChan {t : TypeId} {a : Operand} {n : Nat} (hc : Ctx P T ρ w0) (ho : o.op = .makeChan t a) (hr : Opd ρ L m r o.op.operands) {d : ChanDir} {el : TypeId} {i : TypeInfo} (hu : P.underlying t = some (.chan d el)) (hi : P.info? el = some i) (hb : n ≤ 100000000 ∧ i.bytes * n ≤ 100000000) {k : IntKind} (ha : r a = .int k (n : Int)) (e : mkO s (.chan n [] false 0 0) (fun b s => Rv.ok (.ch (some b)) s) = .ok v s') : Made P ρ w0 L r o w s v s' := by
  rw [mkO_eq] at e
  obtain ⟨e1, e2⟩ := ok_inj e
  refine ⟨.chan n [] false 0 0, fun b => .ch (some b), e1.symm, e2.symm, rfl, .chan n #[] false 0 0 false, fun B => .chan (some B), 0, ?_, fun b hb hw => ⟨?_, .ch (Loc.put_self _ _ _ _)⟩⟩
  · unfold execOp
    simp only [ho, ha]
    have hmax : IntKind.i64.max = 9223372036854775807 := by decide
    have h1 : ¬ ((n : Int) < 0 ∨ (n : Int) > IntKind.i64.max ∨ (i.bytes : Int) * (n : Int) > 2 ^ 48 - 112) := by
      have h2 : (i.bytes : Int) * (n : Int) = ((i.bytes * n : Nat) : Int) := by simp
      rw [hmax, h2]
      omega
    simp only [Instr.makeChan, asInt, asIntOf, Sem.run_bind, Sem.run_pure, Result.andThen_ok, run_underlying hu, typeInfo, program, Sem.run, hi, if_neg h1]
    simp [newObj]
    rfl
  · intro B base sz e
    rw [Loc.put_self] at e
    injection e with e
    injection e with e1 e2
    injection e2 with e2 e3
    subst e1 e2 e3
    refine ⟨hw, rfl, #[], ?_, .nil⟩
    show (w.heap.push _)[w.heap.size]? = _
    simp
end
end Go.RI
namespace Go.RI
open Go Go.RowKit
section
variable {P : Program} {T : Tb} {ρ : Env} {w0 w : World} {L : Loc} {s s' : St} {m : Fm} {v : V} {r : Operand → Value} {o : Oper}

theorem strV_ok {k : List Nat → Rv} : ∀ {l : List V}, strV .no l k = .ok v s → ∃ ns : List Nat, k ns = .ok v s ∧ l = bytesV ns ∧ ∀ n ∈ ns, n < 256 := by
  intro l
  induction l generalizing k with
  | nil => intro h; exact ⟨[], h, rfl, fun n hn => by cases hn⟩
  | cons x l ih =>
    intro h
    replace h : onInt x Rv.no (fun kd i => cd (Nat.beq (kn kd) 4) (@Int.rec (fun _ => Rv) (fun n => cd (Nat.blt n 256) (strV .no l fun r => k (n :: r)) .no) (fun _ => .no) i) .no) = .ok v s := h
    replace h := onInt_ok h
    obtain ⟨kd, i, rfl, h⟩ := h
    replace h := cd_ok h
    obtain ⟨h1, h⟩ := h
    have h1 : kd = .u8 := kn_inj (k' := .u8) h1
    subst h1
    cases i with
    | negSucc n => cases h
    | ofNat n =>
      replace h : cd (Nat.blt n 256) (strV .no l fun r => k (n :: r)) .no = .ok v s := h
      replace h := cd_ok h
      obtain ⟨h2, h⟩ := h
      obtain ⟨ns, h3, rfl, h4⟩ := ih h
      exact ⟨n :: ns, h3, rfl, fun y hy => by
        rcases List.mem_cons.1 hy with rfl | hy
        · exact Nat.blt_eq.mp h2
        · exact h4 y hy⟩
theorem bytesV_rvs : ∀ {ns : List Nat} {xs : List Value}, RVs ρ L (bytesV ns) xs → xs = ns.map fun (n : Nat) => Value.int .u8 (n : Int)
  | [], xs, h => by
    have h : RVs ρ L [] xs := h
    cases h
    rfl
  | n :: ns, xs, h => by
    have h : RVs ρ L (.int .u8 (.ofNat n) :: bytesV ns) xs := h
    cases h with
    | cons a b =>
      cases a
      rw [bytesV_rvs b]
      rfl
theorem rvs_bytesV (l : List UInt8) : RVs ρ L (bytesV (l.map UInt8.toNat)) (l.map fun b => Value.int .u8 b.toNat) := by
  induction l with
  | nil => exact .nil
  | cons x r ih => exact .cons (.int .u8 (Int.ofNat x.toNat)) ih
theorem fold_bytes : ∀ (ns : List Nat) (acc : ByteArray), (∀ n ∈ ns, n < 256) → ((ns.map fun (n : Nat) => (n : Int)).foldl (fun (r : ByteArray) (n : Int) => r.push (UInt8.ofNat n.toNat)) acc).data.toList.map UInt8.toNat = acc.data.toList.map UInt8.toNat ++ ns
  | [], acc, _ => by simp
  | n :: ns, acc, h => by
    rw [List.map_cons, List.foldl_cons, fold_bytes ns _ (fun y hy => h y (List.mem_cons_of_mem _ hy))]
    have hn := h n List.mem_cons_self
    have : (acc.push (UInt8.ofNat ((n : Int)).toNat)).data.toList = acc.data.toList ++ [UInt8.ofNat n] := by simp [ByteArray.push]
    rw [this, List.map_append, List.append_assoc]
    congr 1
    simp [UInt8.toNat_ofNat, Nat.mod_eq_of_lt hn]
theorem rowT_spec (h : Rel ρ w0 L s w) {p : Pl} {a : Addr} (ha : RA L p a) {q : TypeId × Nat × Nat} (e : rowT s p = some q) : ∃ B C fz, a = ⟨B, q.2.2, none⟩ ∧ w.heap[B]? = some (.cells C q.1 fz) ∧ q.2.1 ≤ C.size := by
  cases ha with
  | var b o => cases e
  | @own b g o B base sz hL =>
    replace e : on (s.h.get b) none (fun ob => onRow ob none fun t z g' _ _ => cd (Nat.beq g g') (some (t, z, o)) none) = some q := e
    replace e := on_some e
    obtain ⟨ob, hb, e⟩ := e
    cases ob with
    | row t n g' z c =>
      replace e : cd (Nat.beq g g') (some (t, n, o)) none = some q := e
      replace e := cd_some e
      obtain ⟨hg, e⟩ := e
      have := beq_iff.1 hg
      subst this
      injection e with e
      subst e
      obtain ⟨-, h0, C, fz, a1, a2, a3, -⟩ := h.row hb hL
      subst h0
      exact ⟨B, C, fz, by simp, a1, by show n ≤ C.size; omega⟩
    | _ => cases e
theorem layout_same {e : TypeId} {cells : Nat} (h0 : P.cellsOf e ≠ 0) (h1 : P.cellsOf e ≤ cells) : liesAt P P.depth e (cells / P.cellsOf e) 0 e 1 = true := by
  have hd : P.depth = (2 * (P.types.size + Made.depth) + 1) + 1 := rfl
  have h2 : 1 ≤ cells / P.cellsOf e := (Nat.le_div_iff_mul_le (by omega)).2 (by omega)
  rw [hd]
  simp only [liesAt, Bool.or_eq_true]
  left
  rw [hd]
  simp [rowAt, h0, h2, sameLayout]
theorem layout_first {e t : TypeId} {cells : Nat} {fs : Array Field} {f : Field} {r : List Field} (h0 : P.cellsOf e ≠ 0) (h1 : P.cellsOf e ≤ cells) (hu : P.underlying e = some (.struct fs)) (hf : fs.toList = f :: r) (ht : f.type = t) (ho : f.offset = 0) (hs : P.stoodInHeld e = false) (hn : P.cellsOf t ≠ 0) : liesAt P P.depth e (cells / P.cellsOf e) 0 t 1 = true := by
  have hd : P.depth = ((2 * (P.types.size + Made.depth)) + 1) + 1 := rfl
  have h2 : 1 ≤ cells / P.cellsOf e := (Nat.le_div_iff_mul_le (by omega)).2 (by omega)
  have hm : f ∈ fs := by
    rw [← Array.mem_toList_iff, hf]
    exact List.mem_cons_self ..
  rw [hd]
  simp only [liesAt, Bool.or_eq_true]
  left
  rw [hd]
  rw [rowAt]
  have hin : rowAt P (fun x => sameLayout P (2 * (P.types.size + Made.depth) + 1 + 1) x t) (2 * (P.types.size + Made.depth) + 1) t 1 0 1 = true := by
    rw [rowAt]
    simp [hn, sameLayout]
  rw [if_neg h0]
  simp only [Bool.or_eq_true, Bool.and_eq_true, hu]
  right
  refine ⟨by simp; omega, ?_⟩
  simp only [hs, Bool.not_false, true_and]
  rw [Array.any_eq_true']
  refine ⟨f, hm, ?_⟩
  subst ht
  simp only [ho, Nat.zero_mod, Nat.sub_zero]
  have : 0 < P.cellsOf f.type := by omega
  simp [this, hin]
theorem cellsOf_eq (hc : Ctx P T ρ w0) {t : TypeId} {n : Nat} (h : siz T t = some n) : P.cellsOf t = n := by
  obtain ⟨i, hi, rfl⟩ := siz_spec hc h
  simp [Program.cellsOf, hi]
theorem cnvB0_spec (hc : Ctx P T ρ w0) {t n sz : Nat} {q : TypeId × Nat × Nat} (hn0 : n ≠ 0) (hcells : P.cellsOf t = n) (k2 : q.2.1 ≤ sz) (h : cnvB0 T t n q = true) : liesAt P P.depth q.1 (sz / P.cellsOf q.1) q.2.2 t 1 = true := by
  obtain ⟨h1, h2⟩ := an_true (show an _ _ = true from h)
  have h1 := beq_iff.1 h1
  rw [h1]
  cases hb : Nat.beq q.1 t with
  | true =>
    rw [hb, cd_true] at h2
    have hb := beq_iff.1 hb
    have h2 := Nat.le_of_ble_eq_true h2
    rw [hb]
    exact layout_same (by rw [hcells]; exact hn0) (by rw [hcells]; omega)
  | false =>
    rw [hb, cd_false] at h2
    obtain ⟨h3, h4⟩ := an_true h2
    unfold fst0 at h3
    split at h3
    · rename_i fs hu
      split at h3
      · rename_i f r hf
        obtain ⟨h5, h6⟩ := an_true h3
        obtain ⟨h6, h7⟩ := an_true h6
        have h5 := beq_iff.1 h5
        have h6 := beq_iff.1 h6
        cases hs : siz T q.1 with
        | none => rw [hs] at h4; cases h4
        | some n1 =>
          rw [hs] at h4
          obtain ⟨h8, h9⟩ := an_true (show an (Nat.blt 0 n1) (Nat.ble n1 q.2.1) = true from h4)
          have h8 := Nat.blt_eq.mp h8
          have h9 := Nat.le_of_ble_eq_true h9
          have hc1 := cellsOf_eq hc hs
          refine layout_first (by rw [hc1]; omega) (by rw [hc1]; omega) (und_spec hc hu) hf h5 h6 ?_ (by rw [hcells]; exact hn0)
          refine hc.hd _ ?_
          cases hh : T.hd q.1 with
          | false => rfl
          | true => rw [hh] at h7; cases h7
      · cases h3
    · cases h3
theorem u8K_spec (hc : Ctx P T ρ w0) {t : TypeId} (h : u8K T t = true) : P.underlying t = some (.int .u8) := by
  unfold u8K at h
  split at h
  · rename_i hu; exact und_spec hc hu
  · cases h
theorem cd_okN {c : Bool} {x : Rv} {v : V} {s : St} (h : cd c .no x = .ok v s) : c = false ∧ x = .ok v s := by
  cases c with
  | true => cases h
  | false => exact ⟨rfl, h⟩
/-- []byte(s). -/
theorem run_strBytes (w : World) (el : TypeId) (sb : ByteArray) : ∃ (cap : Nat) (C : Array Value), sb.size ≤ cap ∧ (∀ (i : Nat) u, (sb.data.toList.map fun b => Value.int .u8 b.toNat)[i]? = some u → C[i]? = some u) ∧ C.size = cap ∧
    (Conv.stringToBytes el sb).run P w = .ok (.slice (some ⟨w.heap.size, 0, none⟩) sb.size cap) (World.alloc { w with drawn := w.drawn + 1 } (.cells C el (cap, cap + 1))) := by
  have hle := grownCap_ge w sb.size 0 el
  have hsz : (sb.data.map fun (b : UInt8) => Value.int .u8 b.toNat).size = sb.size := by simp
  have hC : ((sb.data.map fun (b : UInt8) => Value.int .u8 b.toNat) ++ Array.replicate (grownCap w sb.size 0 el - sb.size) (Value.int .u8 0)).size = grownCap w sb.size 0 el := by rw [Array.size_append, hsz]; simp; omega
  refine ⟨grownCap w sb.size 0 el, (sb.data.map fun (b : UInt8) => Value.int .u8 b.toNat) ++ Array.replicate (grownCap w sb.size 0 el - sb.size) (Value.int .u8 0), hle, fun i u hu => ?_, hC, ?_⟩
  · have hi := (List.getElem?_eq_some_iff.1 hu).1
    rw [Array.getElem?_append_left (by simpa using hi)]
    simpa using hu
  · have hdef : (Conv.stringToBytes el sb).run P w = ((newRow el ((sb.data.map fun (b : UInt8) => Value.int .u8 b.toNat) ++ Array.replicate (grownCap w sb.size 0 el - sb.size) (Value.int .u8 0)) >>= fun a => markStringish a >>= fun _ => pure (Value.slice (some a) sb.size (grownCap w sb.size 0 el)) : Sem Value)).run P { w with drawn := w.drawn + 1 } := rfl
    rw [hdef]
    generalize (sb.data.map fun (b : UInt8) => Value.int .u8 b.toNat) ++ Array.replicate (grownCap w sb.size 0 el - sb.size) (Value.int .u8 0) = C at hC ⊢
    generalize grownCap w sb.size 0 el = cap at *
    have h1 : (newRow el C).run P { w with drawn := w.drawn + 1 } = .ok ⟨w.heap.size, 0, none⟩ (World.alloc { w with drawn := w.drawn + 1 } (.cells C el)) := rfl
    have h2 : ∀ W : World, (markStringish ⟨w.heap.size, 0, none⟩).run P W = match W.shape? w.heap.size with
      | some (_, n) => .ok () (W.freeze { block := w.heap.size, off := n } 1)
      | none => .ok () W := by
      intro W
      unfold markStringish
      simp only [shape, Sem.run_bind, Sem.run, Result.andThen_ok]
      cases W.shape? w.heap.size with
      | none => rfl
      | some q => rfl
    simp only [Sem.run_bind, h1, Result.andThen_ok, h2]
    have h3 : (World.alloc { w with drawn := w.drawn + 1 } (.cells C el)).shape? w.heap.size = some (el, C.size) := by
      simp [World.shape?, World.alloc]
    rw [h3]
    simp only [Result.andThen_ok, Sem.run_pure]
    congr 1
    unfold World.freeze
    rw [if_neg (by omega)]
    simp only [World.alloc]
    congr 1
    apply Array.ext_getElem?
    intro i
    rw [Array.getElem?_modify]
    by_cases c : w.heap.size = i
    · subst c
      simp [hC]
    · rw [if_neg c]
      simp [Array.getElem?_push, Ne.symm c]
theorem op_convert {a b : TypeId} {x : Operand} (hc : Ctx P T ρ w0) (ho : o.op = .convert a b x) (h : Rel ρ w0 L s w) (hr : Opd ρ L m r o.op.operands) (e : on (ev m x) Rv.no (fun v => cnv T a b v s) = .ok v s') : Good P ρ w0 L r o w v s' := by
  replace e := on_ok e
  obtain ⟨u, hu, e⟩ := e
  have hav := hr x (by simp [ho, Op.operands]) _ hu
  generalize hx : r x = z at hav
  unfold cnv at e
  replace e := on_ok e
  obtain ⟨da, hda, e⟩ := e
  replace e := on_ok e
  obtain ⟨db, hdb, e⟩ := e
  have pa := und_spec hc hda
  have pb := und_spec hc hdb
  have fin : ∀ {y : Value} {w' : World} {L' : Loc}, L.le L' → Rel ρ w0 L' s' w' → RV ρ L' v y → (convert a b z).run P w = .ok y w' → Good P ρ w0 L r o w v s' := by
    intro y w' L' k1 k2 k3 k4
    refine ⟨y, w', L', k1, k2, k3, .inl ?_⟩
    unfold execOp
    simp only [ho, hx, Sem.run_bind, k4, Result.andThen_ok, Sem.run_pure]
  have fin0 : ∀ {y : Value}, s' = s → RV ρ L v y → (convert a b z).run P w = .ok y w → Good P ρ w0 L r o w v s' := by
    rintro y rfl k3 k4
    exact fin L.le_refl h k3 k4
  have bytes : ∀ {el : TypeId} {p : Pl} {A : Addr} {n c : Nat}, da = .slice el → db = .string → RA L p A → z = .slice (some A) n c → cnvB T el p n s = .ok v s' → Good P ρ w0 L r o w v s' := by
    intro el p A n c e1 e2 hA hz e9
    clear e
    subst e1 e2
    unfold cnvB at e9
    replace e9 := cd_ok e9
    obtain ⟨h8, e9⟩ := e9
    replace e9 := on_ok e9
    obtain ⟨l, hl, e9⟩ := e9
    replace e9 := strV_ok e9
    obtain ⟨ns, e9, rfl, hlt⟩ := e9
    obtain ⟨rfl, rfl⟩ := ok_inj e9
    obtain ⟨xs, k1, k2, -, k3⟩ := rd_spec hc h hA hl
    have hxs := bytesV_rvs k1
    have hload := run_loadCells_list (P := P) w A xs k3
    have hrun := run_bytesToString (P := P) w A n c (ns.map fun (n : Nat) => (n : Int)) (by
      rw [k2] at hload
      rw [hload, hxs]
      congr 2
      simp)
    have hv : RV ρ L (.str ns) (.string ((ns.map fun (n : Nat) => (n : Int)).foldl (fun (r : ByteArray) (n : Int) => r.push (UInt8.ofNat n.toNat)) .empty)) := by
      have := RV.str (ρ := ρ) (L := L) ((ns.map fun (n : Nat) => (n : Int)).foldl (fun (r : ByteArray) (n : Int) => r.push (UInt8.ofNat n.toNat)) .empty)
      rw [fold_bytes ns _ hlt] at this
      simpa using this
    refine fin0 rfl hv ?_
    subst hz
    simp only [convert, Sem.run_bind, run_underlying pa, run_underlying pb, Result.andThen_ok, run_underlying (u8K_spec hc h8)]
    exact hrun
  split at e
  · rename_i k kd n
    obtain ⟨rfl, rfl⟩ := intR_ok e
    cases hav
    refine fin0 (y := .int k (k.wrap n)) rfl (by rw [wrp_eq]; exact .int _ _) ?_
    simp only [convert, Sem.run_bind, run_underlying pa, run_underlying pb, Result.andThen_ok]
    rfl
  · obtain ⟨rfl, rfl⟩ := ok_inj e
    refine fin0 rfl hav ?_
    cases hav
    simp only [convert, Sem.run_bind, run_underlying pa, run_underlying pb, Result.andThen_ok]
    rfl
  · rename_i kd n
    replace e := cd_ok e
    obtain ⟨h1, e⟩ := e
    obtain ⟨rfl, rfl⟩ := ok_inj e
    have h1 := Nat.blt_eq.mp h1
    cases hav
    refine fin0 (y := .string ⟨#[UInt8.ofNat n]⟩) rfl ?_ ?_
    · have := RV.str (ρ := ρ) (L := L) ⟨#[UInt8.ofNat n]⟩
      simpa [UInt8.toNat_ofNat, Nat.mod_eq_of_lt (by omega : n < 256)] using this
    · simp only [convert, Sem.run_bind, run_underlying pa, run_underlying pb, Result.andThen_ok]
      have hval : Utf8.valid (n : Int) = true := by
        unfold Utf8.valid
        simp
        omega
      have henc : Utf8.encode (n : Int) = ⟨#[UInt8.ofNat n]⟩ := by
        unfold Utf8.encode
        simp [hval, h1]
      show Result.ok (Value.string (Utf8.encode (n : Int))) w = _
      rw [henc]
  · rename_i el l
    replace e := cd_ok e
    obtain ⟨h8, e⟩ := e
    rw [mk_eq, sN_eq] at e
    obtain ⟨rfl, rfl⟩ := ok_inj e
    cases hav with
    | str sb =>
      have hn : ∀ g, L s.nx g = none := fun g => h.fresh _ g (Nat.le_refl _)
      obtain ⟨cap, C, hcap, hC, hCs, hrun⟩ := run_strBytes (P := P) w el sb
      have hlen : (bytesV (sb.data.toList.map UInt8.toNat)).length = sb.size := by
        have := (rvs_bytesV (ρ := ρ) (L := L) sb.data.toList).length
        rw [this]
        simp
      have hm := (h.more (.row el (bytesV (sb.data.toList.map UInt8.toNat)).length 0 1 (wrT (bytesV (sb.data.toList.map UInt8.toNat)) 0 .lf))).drew (w.drawn + 1)
      have hl := hm.lay (b := s.nx) (Tr.get_put_self _ _ _) (by simp) h.free (hn 0) (.cells C el (cap, cap + 1)) cap (by
        intro B base sz e
        replace e : L.put s.nx 0 (w.heap.size, 0, cap) s.nx 0 = some (B, base, sz) := e
        rw [Loc.put_self] at e
        injection e with e
        injection e with e1 e2
        injection e2 with e2 e3
        subst e1 e2 e3
        refine ⟨h.below.size, rfl, C, (cap, cap + 1), ?_, hCs, by omega, fun q => (by cases q), fun _ => .inl (Nat.le_refl _), fun i v hi hv' => ?_⟩
        · show (w.heap.push _)[w.heap.size]? = _
          simp
        · rw [wrT_get, if_pos (by omega)] at hv'
          obtain ⟨u, k1, k2⟩ := (rvs_bytesV (ρ := ρ) (L := L) sb.data.toList).get hv'
          exact ⟨u, by rw [Nat.zero_add, hC i u k1], k2.mono (Loc.le_put (hn 0) _)⟩)
      refine fin (Loc.le_put (hn 0) _) hl ?_ (y := .slice (some ⟨w.heap.size, 0, none⟩) sb.size cap) ?_
      · have hlen2 : len (sb.data.toList.map UInt8.toNat) = sb.size := by rw [len_eq]; simp
        rw [hlen2]
        have := RV.sg (ρ := ρ) (n := sb.size) (w := 1) (o := 0) (c := cap) (Loc.put_self L s.nx 0 (w.heap.size, 0, cap)) hcap (by omega)
        simpa using this
      · simp only [convert, Sem.run_bind, run_underlying pa, run_underlying pb, Result.andThen_ok, run_underlying (u8K_spec hc h8)]
        exact hrun
  · rename_i el c1 c2
    replace e := cd_ok e
    obtain ⟨h8, e⟩ := e
    obtain ⟨rfl, rfl⟩ := ok_inj e
    refine fin0 (y := .string .empty) rfl (RV.str (ρ := ρ) (L := L) .empty) ?_
    cases hav
    simp only [convert, Sem.run_bind, run_underlying pa, run_underlying pb, Result.andThen_ok, run_underlying (u8K_spec hc h8)]
    rfl
  · cases hav with
    | sl hA hn => exact bytes rfl rfl hA rfl e
  · cases hav with
    | sg hL hn hroom => exact bytes rfl rfl (.own hL) rfl e
  · rename_i t p
    unfold cnvU at e
    cases p with
    | none =>
      obtain ⟨rfl, rfl⟩ := ok_inj e
      refine fin0 rfl hav ?_
      cases hav
      simp only [convert, Sem.run_bind, run_underlying pa, run_underlying pb, Result.andThen_ok, Conv.unsafePointer]
      rfl
    | some p =>
      replace e : on (rowT s p) Rv.no _ = .ok v s' := e
      replace e := on_ok e
      obtain ⟨q, hq, e⟩ := e
      replace e := on_ok e
      obtain ⟨n, hn, e⟩ := e
      replace e := cd_okN e
      obtain ⟨h0, e⟩ := e
      replace e := cd_ok e
      obtain ⟨h1, e⟩ := e
      obtain ⟨rfl, rfl⟩ := ok_inj e
      have h1 : q.2.2 < q.2.1 := Nat.blt_eq.mp h1
      obtain ⟨j, hj, rfl⟩ := siz_spec hc hn
      refine fin0 rfl hav ?_
      cases hav with
      | ptr hA =>
        obtain ⟨B, C, fz, rfl, k1, k2⟩ := rowT_spec h hA hq
        refine Lib.run_to_unsafe (P := P) w (e := q.1) (cells := C.size) _ pa pb hj (fun q0 => by rw [q0] at h0; cases h0) (by simp [World.shape?, k1]) (by show q.2.2 < C.size; omega)
  · rename_i t p
    unfold cnvU at e
    cases p with
    | none =>
      obtain ⟨rfl, rfl⟩ := ok_inj e
      refine fin0 rfl hav ?_
      cases hav
      simp only [convert, Sem.run_bind, run_underlying pa, run_underlying pb, Result.andThen_ok, Conv.unsafePointer]
      rfl
    | some p =>
      replace e : on (rowT s p) Rv.no _ = .ok v s' := e
      replace e := on_ok e
      obtain ⟨q, hq, e⟩ := e
      replace e := on_ok e
      obtain ⟨n, hn, e⟩ := e
      replace e := cd_okN e
      obtain ⟨h0, e⟩ := e
      replace e := cd_ok e
      obtain ⟨h1, e⟩ := e
      obtain ⟨rfl, rfl⟩ := ok_inj e
      have hcells := cellsOf_eq hc hn
      have hn0 : n ≠ 0 := fun q0 => by rw [q0] at h0; cases h0
      obtain ⟨j, hj, -⟩ := siz_spec hc hn
      refine fin0 rfl hav ?_
      cases hav with
      | ptr hA =>
        obtain ⟨B, C, fz, rfl, k1, k2⟩ := rowT_spec h hA hq
        refine Lib.run_from_unsafe (P := P) w (e := q.1) (cells := C.size) _ pa pb hj (by simp [World.shape?, k1]) ?_
        exact cnvB0_spec hc hn0 hcells k2 h1
  · cases e
end
end Go.RI
namespace Go.RI
open Go Go.RowKit
section
variable {P : Program} {T : Tb} {ρ : Env} {w0 w : World} {L : Loc} {s s' : St} {m : Fm} {v : V} {r : Operand → Value} {o : Oper}

theorem op_assert {x : Operand} {t0 t : TypeId} {ok : Bool} (hc : Ctx P T ρ w0) (ho : o.op = .typeAssert x t0 t ok) (h : Rel ρ w0 L s w) (hr : Opd ρ L m r o.op.operands) (e : on (ev m x) Rv.no (fun v => asr T v t ok s) = .ok v s') : Good P ρ w0 L r o w v s' := by
  replace e := on_ok e
  obtain ⟨u, hu, e⟩ := e
  have hav := hr x (by simp [ho, Op.operands]) _ hu
  generalize hx : r x = z at hav
  have fin : ∀ {y : Value}, s' = s → RV ρ L v y → (Instr.typeAssert z t0 t ok).run P w = .ok y w → Good P ρ w0 L r o w v s' := by
    rintro y rfl k3 k4
    refine .read h k3 ?_
    unfold execOp
    simp only [ho, hx, Sem.run_bind, k4, Result.andThen_ok, Sem.run_pure]
  unfold asr at e
  split at e
  · cases e
  · rename_i d u' v' hni hut
    have hp := und_spec hc hut
    have hd : ∀ a, d ≠ .interface a := fun a q => hni a q
    cases hav with
    | ifc hv =>
      rename_i y
      have hrun : (Instr.typeAssert (.iface u' y) t0 t ok).run P w = (if u' = t then (pure (if ok then Value.tuple #[y, .bool true] else y) : Sem Value).run P w else (if ok then (do pure (Value.tuple #[← zeroValue t, .bool false]) : Sem Value) else runtimePanic (.typeAssertion (some t0) (some u') t "")).run P w) := by
        unfold Instr.typeAssert
        simp only [Sem.run_bind, run_underlying hp, Result.andThen_ok]
        cases d <;> first | (exact absurd rfl (hd _)) | (split <;> rfl) | skip
      cases hb : Nat.beq u' t with
      | true =>
        rw [hb, cond_true] at e
        have hut' := beq_iff.1 hb
        rw [if_pos hut'] at hrun
        cases ok with
        | true =>
          obtain ⟨rfl, rfl⟩ := ok_inj e
          refine fin rfl (.tup (.cons hv (.cons (.bool true) .nil))) hrun
        | false =>
          obtain ⟨rfl, rfl⟩ := ok_inj e
          refine fin rfl hv hrun
      | false =>
        rw [hb, cond_false] at e
        have hut' : u' ≠ t := fun q => by rw [q, Nat.beq_refl] at hb; cases hb
        rw [if_neg hut'] at hrun
        split at e
        · rename_i z' hz
          obtain ⟨rfl, rfl⟩ := ok_inj e
          obtain ⟨i, z'', g1, g2, -, g4, g5⟩ := zer_spec hc hz
          refine fin rfl (.tup (.cons (g4 L) (.cons (.bool false) .nil))) ?_
          rw [hrun]
          simp [g5]
        · cases e
  · cases e
/-! maps -/
theorem mapE_spec (h : Rel ρ w0 L s w) {b : Nat} {q : List Me × Nat} (e : mapE s b = some q) {B base sz : Nat} (hL : L b 0 = some (B, base, sz)) : s.h.get b = some (.map q.1 q.2) ∧ w0.heap.size ≤ B ∧ ∃ es, w.heap[B]? = some (.map es q.2) ∧ RMs ρ L q.1 es.toList := by
  unfold mapE at e
  replace e := on_some e
  obtain ⟨ob, hb, e⟩ := e
  cases ob with
  | map l c =>
    replace e : some (l, c) = some q := e
    injection e with e
    subst e
    obtain ⟨h1, -, es, h2, h3⟩ := h.obj b _ hb B base sz hL
    exact ⟨hb, h1, es, h2, h3⟩
  | _ => cases e
theorem run_getObj_map {w : World} {B c : Nat} {es : Array MapEntry} (h : w.heap[B]? = some (.map es c)) : (getObj B).run P w = .ok (.map es c) w := by
  simp [getObj, Sem.run, h]
theorem run_setObj_map {w : World} {B c : Nat} {es : Array MapEntry} {o : Obj} (h : w.heap[B]? = some (.map es c)) : (setObj B o).run P w = .ok () { w with heap := w.heap.setIfInBounds B o } := by
  simp [setObj, Sem.run, h]
/-- A map written anew. -/
theorem Rel.putMap (h : Rel ρ w0 L s w) {b B base sz : Nat} {l l' : List Me} {c c' : Nat} (hb : s.h.get b = some (.map l c)) (hL : L b 0 = some (B, base, sz)) {es : Array MapEntry} (hl : RMs ρ L l' es.toList) :
    Rel ρ w0 L ⟨s.h.put b (.map l' c'), s.nx⟩ { w with heap := w.heap.setIfInBounds B (.map es c') } := by
  obtain ⟨h1, h0, es0, h2, h3⟩ := h.obj b _ hb B base sz hL
  have hlt := (Array.getElem?_eq_some_iff.1 h2).1
  refine h.set (o' := .map l' c') hb rfl ⟨h.below.os, h.below.tape, h.below.output, by simpa using h.below.size, fun k hk => ?_⟩ ?_ (fun k hk _ => ?_)
  · show (w.heap.setIfInBounds B _)[k]? = _
    rw [Array.getElem?_setIfInBounds_ne (by omega)]
    exact h.below.block k hk
  · intro B' base' sz' e
    replace e : L b 0 = some (B', base', sz') := e
    rw [hL] at e
    injection e with e
    injection e with e1 e2
    injection e2 with e2 e3
    subst e1 e2 e3
    exact ⟨h1, h0, es, by simp [hlt], hl⟩
  · show (w.heap.setIfInBounds B _)[k]? = _
    rw [Array.getElem?_setIfInBounds_ne (fun q => hk _ hL q.symm)]
theorem mpK_spec (hc : Ctx P T ρ w0) {t : TypeId} {q : TypeId × TypeId} (h : mpK T t = some q) : P.underlying t = some (.map q.1 q.2) := by
  unfold mpK at h
  split at h
  · rename_i hu
    injection h with h
    subst h
    exact und_spec hc hu
  · cases h
/-- Its parts being there a key may be looked for. -/
theorem on_true {α : Type} {o : Option α} {k : α → Bool} (h : on o false k = true) : ∃ a, o = some a ∧ k a = true := by
  cases o with
  | none => cases h
  | some a => exact ⟨a, rfl, h⟩
theorem onAgg_true {x : V} {k : List V → Bool} (h : onAgg x false k = true) : ∃ l, x = .agg l ∧ k l = true := by
  cases x <;> first | exact ⟨_, rfl, h⟩ | cases h
theorem cd_true' {c b : Bool} (h : cd c false b = true) : c = false ∧ b = true := by
  cases c with
  | true => cases h
  | false => exact ⟨rfl, h⟩
theorem run_yield {q : Sem Unit} (h : q.run P w = .ok () w) : (Functor.map (fun _ => ForInStep.yield PUnit.unit) q).run P w = .ok (ForInStep.yield PUnit.unit) w := by
  show (q >>= fun a => pure _ : Sem _).run P w = _
  simp only [Sem.run_bind, h, Result.andThen_ok]
  rfl
theorem okFs_spec (hc : Ctx P T ρ w0) {ok : TypeId → V → Bool} {em : Bool} {d : Nat} (hok : ∀ t a x, ok t a = true → RV ρ L a x → (Instr.checkKey em d t x).run P w = .ok () w) {l : List V} {xs : List Value} (hl : RVs ρ L l xs) :
    ∀ {fs : List Field}, okFs T ok l fs = true → (forIn (m := Sem) fs PUnit.unit fun f _ =>
            if f.name = "_" then pure (ForInStep.yield PUnit.unit)
            else do
              let a ← part f.type xs.toArray f.offset
              Functor.map (fun _ => ForInStep.yield PUnit.unit) (Instr.checkKey em d f.type a)).run P w = .ok PUnit.unit w
  | [], _ => rfl
  | f :: fs, h => by
    replace h : cd (f.name == "_") false _ = true := h
    replace h := cd_true' h
    obtain ⟨hn, h⟩ := h
    have hn : f.name ≠ "_" := by simpa using hn
    replace h := on_true h
    obtain ⟨a, ha, h⟩ := h
    obtain ⟨h1, h2⟩ := an_true h
    obtain ⟨x, h3, h4⟩ := prt_spec hc ha hl
    have h5 := hok _ _ _ h1 h3
    have ih := okFs_spec hc hok hl (fs := fs) h2
    simp only [List.forIn_cons, if_neg hn, Sem.run_bind, h4, run_yield h5, Result.andThen_ok]
    exact ih
theorem okAs_spec (hc : Ctx P T ρ w0) {ok : TypeId → V → Bool} {em : Bool} {d : Nat} (hok : ∀ t a x, ok t a = true → RV ρ L a x → (Instr.checkKey em d t x).run P w = .ok () w) {l : List V} {xs : List Value} (hl : RVs ρ L l xs) {e wd : Nat} (hw : siz T e = some wd) :
    ∀ {n i : Nat}, okAs T ok l e wd n i = true → (forIn (m := Sem) (List.range' i n) PUnit.unit fun i _ => do
              let s ← sizeOf e
              let a ← part e xs.toArray (i * s)
              Functor.map (fun _ => ForInStep.yield PUnit.unit) (Instr.checkKey em d e a)).run P w = .ok PUnit.unit w
  | 0, i, _ => rfl
  | n + 1, i, h => by
    replace h : on (prt T e l (Nat.mul i wd)) false _ = true := h
    replace h := on_true h
    obtain ⟨a, ha, h⟩ := h
    obtain ⟨h1, h2⟩ := an_true h
    obtain ⟨x, h3, h4⟩ := prt_spec hc ha hl
    have h4 : ∀ w, (part e xs.toArray (i * wd)).run P w = .ok x w := h4
    have h5 := hok _ _ _ h1 h3
    have ih := okAs_spec hc hok hl hw (n := n) (i := i + 1) h2
    simp only [List.range'_succ, List.forIn_cons, Sem.run_bind, run_size hc hw, h4, run_yield h5, Result.andThen_ok]
    exact ih
theorem keyOk_spec (hc : Ctx P T ρ w0) {em : Bool} : ∀ (f : Nat) (t : TypeId) (a : V) (x : Value), keyOk T f t a = true → RV ρ L a x → ∀ d, f ≤ d → (Instr.checkKey em d t x).run P w = .ok () w
  | 0, _, _, _, h, _, _, _ => by cases h
  | f + 1, t, a, x, h, ha, d, hd => by
    obtain ⟨d, rfl⟩ : ∃ d', d = d' + 1 := ⟨d - 1, by omega⟩
    have ih := fun t a x h ha => keyOk_spec hc (em := em) f t a x h ha d (by omega)
    unfold keyOk at h
    cases hu : und T t with
    | none => rw [hu] at h; cases h
    | some dsc =>
      rw [hu] at h
      have hp := und_spec hc hu
      cases dsc with
      | struct fs =>
        replace h : an (nt (T.hd t)) (onAgg a false fun x => okFs T (keyOk T f) x fs.toList) = true := h
        obtain ⟨-, h9⟩ := an_true h
        replace h9 := onAgg_true h9
        obtain ⟨l, rfl, h9⟩ := h9
        cases ha with
        | agg hl =>
          have key := okFs_spec (w := w) hc ih hl h9
          unfold Instr.checkKey
          simp only [Sem.run_bind, run_underlying hp, Result.andThen_ok]
          simp
          rw [← Array.forIn_toList, key]
          rfl
      | array n e =>
        replace h : on (siz T e) false (fun w => onAgg a false fun x => okAs T (keyOk T f) x e w n 0) = true := h
        replace h := on_true h
        obtain ⟨wd, hw, h⟩ := h
        replace h := onAgg_true h
        obtain ⟨l, rfl, h⟩ := h
        cases ha with
        | agg hl =>
          have key := okAs_spec (w := w) hc ih hl hw h
          unfold Instr.checkKey
          simp only [Sem.run_bind, run_underlying hp, Result.andThen_ok]
          simp
          rw [key]
          rfl
      | bool => unfold Instr.checkKey; simp only [Sem.run_bind, run_underlying hp, Result.andThen_ok]; rfl
      | int k => unfold Instr.checkKey; simp only [Sem.run_bind, run_underlying hp, Result.andThen_ok]; rfl
      | string => unfold Instr.checkKey; simp only [Sem.run_bind, run_underlying hp, Result.andThen_ok]; rfl
      | _ => cases h
theorem find_spec (hc : Ctx P T ρ w0) {t : TypeId} {k : V} {x : Value} (hk : RV ρ L k x) (d : TypeDesc) (hd : P.underlying t = some d) : ∀ {l : List Me} {es : List MapEntry} {i : Nat} {j : Option Nat}, find T t k l i = some j → RMs ρ L l es →
    ∃ res : Option (Nat × Value), (Instr.findAsking t x es i).run P w = .ok res w ∧ (∀ r, Instr.findNow d x es i = some r → r = res) ∧
      (j = none → res = none) ∧ ∀ q, j = some q → i ≤ q ∧ ∃ e xe, l[q - i]? = some e ∧ es[q - i]? = some xe ∧ res = some (q, xe.val) ∧ RV ρ L e.k xe.key ∧ RV ρ L e.v xe.val ∧ e.b = xe.born
  | [], _, i, j, h, .nil => by
    injection h with h
    subst h
    exact ⟨none, rfl, fun r hr => (by injection hr with hr; exact hr.symm), fun _ => rfl, fun q hq => by cases hq⟩
  | e :: l, _, i, j, h, .cons (x := xe) (r := es) h1 h2 h3 h4 => by
    replace h : on (eqT T 4 t k e.k) none (fun c => cd c (some (some i)) (find T t k l (Nat.succ i))) = some j := h
    replace h := on_some h
    obtain ⟨c, hcc, h⟩ := h
    have heq : (Op.equal t x xe.key).run P w = .ok c w := equal_in fun d hd => eqT_spec hc 4 t k e.k c x xe.key hcc hk h1 _ (by omega)
    have hnow : ∀ b, Instr.sameNow d x xe.key = some b → b = c := by
      have gen : ∀ y, (Op.equal t x y).run P w = .ok c w → ∀ b, Instr.sameNow d x y = some b → b = c := by
        intro y h0 b hb
        unfold Instr.sameNow at hb
        split at hb
        · rename_i kd k1 a1 k2 b1
          split at hb
          · rename_i hkk
            subst hkk
            injection hb with hb
            have : (Op.equal t (.int k1 a1) (.int k1 b1)).run P w = .ok (a1 == b1) w := equal_in fun d hd' => by simp [Op.equalIn, run_underlying hd]
            rw [this] at h0
            injection h0 with h0
            rw [← hb, h0]
          · cases hb
        · rename_i a1 b1
          injection hb with hb
          have : (Op.equal t (.string a1) (.string b1)).run P w = .ok (a1 == b1) w := equal_in fun d hd' => by simp [Op.equalIn, run_underlying hd]
          rw [this] at h0
          injection h0 with h0
          rw [← hb, h0]
        · rename_i a1 b1
          injection hb with hb
          have : (Op.equal t (.bool a1) (.bool b1)).run P w = .ok (a1 == b1) w := equal_in fun d hd' => by simp [Op.equalIn, run_underlying hd]
          rw [this] at h0
          injection h0 with h0
          rw [← hb, h0]
        · cases hb
      exact gen _ heq
    cases c with
    | true =>
      have h : some (some i) = some j := h
      injection h with h
      subst h
      refine ⟨some (i, xe.val), by simp [Instr.findAsking, heq], fun r hr => ?_, fun q => (by cases q), fun q hq => ?_⟩
      · unfold Instr.findNow at hr
        cases hs : Instr.sameNow d x xe.key with
        | none => rw [hs] at hr; cases hr
        | some b =>
          have := hnow b hs
          subst this
          rw [hs] at hr
          injection hr with hr
          exact hr.symm
      · injection hq with hq
        subst hq
        exact ⟨Nat.le_refl _, e, xe, by simp, by simp, rfl, h1, h2, h3⟩
    | false =>
      have h : find T t k l (i + 1) = some j := h
      obtain ⟨res, k1, k2, k3, k4⟩ := find_spec hc hk d hd h h4
      refine ⟨res, by simp [Instr.findAsking, heq, k1], fun r hr => ?_, k3, fun q hq => ?_⟩
      · unfold Instr.findNow at hr
        cases hs : Instr.sameNow d x xe.key with
        | none => rw [hs] at hr; cases hr
        | some b =>
          have := hnow b hs
          subst this
          rw [hs] at hr
          exact k2 r hr
      · obtain ⟨g1, e', xe', g2, g3, g4⟩ := k4 q hq
        refine ⟨by omega, e', xe', ?_, ?_, g4⟩
        · rw [show q - i = (q - (i + 1)) + 1 by omega]; simpa using g2
        · rw [show q - i = (q - (i + 1)) + 1 by omega]; simpa using g3
theorem findKey_run (hc : Ctx P T ρ w0) {t : TypeId} {k : V} {x : Value} (hk : RV ρ L k x) {d : TypeDesc} (hd : P.underlying t = some d) {l : List Me} {es : List MapEntry} {j : Option Nat} (h : find T t k l 0 = some j) (hl : RMs ρ L l es) :
    ∃ res : Option (Nat × Value), (Instr.findKey t x es).run P w = .ok res w ∧ (j = none → res = none) ∧ ∀ q, j = some q → ∃ e xe, l[q]? = some e ∧ es[q]? = some xe ∧ res = some (q, xe.val) ∧ RV ρ L e.k xe.key ∧ RV ρ L e.v xe.val ∧ e.b = xe.born := by
  obtain ⟨res, h1, h2, h3, h4⟩ := find_spec (w := w) hc hk d hd h hl
  refine ⟨res, ?_, h3, fun q hq => (h4 q hq).2⟩
  unfold Instr.findKey
  simp only [Sem.run_bind, run_underlying hd, Result.andThen_ok]
  cases hn : Instr.findNow d x es 0 with
  | none => exact h1
  | some r => rw [h2 r hn]; rfl
theorem keyOk_und (hc : Ctx P T ρ w0) {f : Nat} {t : TypeId} {a : V} (h : keyOk T f t a = true) : ∃ d, P.underlying t = some d := by
  cases f with
  | zero => cases h
  | succ f =>
    unfold keyOk at h
    cases hu : und T t with
    | none => rw [hu] at h; cases h
    | some d => exact ⟨d, und_spec hc hu⟩
end
end Go.RI
namespace Go.RI
open Go Go.RowKit
section
variable {P : Program} {T : Tb} {ρ : Env} {w0 w : World} {L : Loc} {s s' : St} {m : Fm} {v : V} {r : Operand → Value} {o : Oper}

theorem eqC_bits {a b : V} {x y : Value} (h : eqC a b = some true) (ha : RV ρ L a x) (hb : RV ρ L b y) (n : Nat) : Instr.sameBits n y x = true := by
  rcases eqC_spec h ha hb with ⟨p, q, rfl, rfl, hq⟩ | ⟨k, p, q, rfl, rfl, hq⟩ | ⟨p, q, rfl, rfl, hq⟩
  · have : p = q := by simpa using hq.symm
    subst this; simp [Instr.sameBits]
  · have : p = q := by simpa using hq.symm
    subst this; simp [Instr.sameBits]
  · rw [ba_beq] at hq
    have : p = q := by simpa using hq.symm
    subst this
    simp [Instr.sameBits, ba_beq]
theorem eqP_bits (n : Nat) : ∀ {a b : List V} {x y : List Value}, eqP a b = true → RVs ρ L a x → RVs ρ L b y → y.length = x.length ∧ (y.zip x).all (fun (p, q) => Instr.sameBits n p q) = true
  | [], [], _, _, _, .nil, .nil => ⟨rfl, rfl⟩
  | [], _ :: _, _, _, h, _, _ => by cases h
  | _ :: _, [], _, _, h, _, _ => by cases h
  | a :: l, b :: l', _, _, h, .cons (x := p) (r := q) h1 h2, .cons (x := p') (r := q') h3 h4 => by
    replace h : on (eqC a b) false (fun c => an c (eqP l l')) = true := h
    replace h := on_true h
    obtain ⟨c, hcc, h⟩ := h
    obtain ⟨k1, k2⟩ := an_true h
    subst k1
    obtain ⟨g1, g2⟩ := eqP_bits n k2 h2 h4
    refine ⟨by simp [g1], ?_⟩
    simp only [List.zip_cons_cons, List.all_cons, eqC_bits hcc h1 h3 n, Bool.true_and]
    exact g2
theorem onAgg_bool {x : V} {b : Bool} {k : List V → Bool} (h : onAgg x b k = true) : (∃ l, x = .agg l ∧ k l = true) ∨ b = true := by
  cases x <;> first | exact .inl ⟨_, rfl, h⟩ | exact .inr h
theorem keyEq_bits {a b : V} {x y : Value} (h : keyEq a b = true) (ha : RV ρ L a x) (hb : RV ρ L b y) : Instr.sameBits 10000 y x = true := by
  unfold keyEq at h
  replace h := onAgg_bool h
  rcases h with ⟨l, rfl, h⟩ | h
  · replace h := onAgg_true h
    obtain ⟨l', rfl, h⟩ := h
    cases ha with
    | agg ha => cases hb with
      | agg hb =>
        obtain ⟨h1, h2⟩ := eqP_bits 9999 h ha hb
        rename_i p q
        show (q.toArray.size == p.toArray.size && (q.toArray.toList.zip p.toArray.toList).all fun (x, y) => Instr.sameBits 9999 x y) = true
        simp only [List.size_toArray, h1, beq_self_eq_true, Bool.true_and]
        exact h2
  · replace h := on_true h
    obtain ⟨c, hcc, h⟩ := h
    replace h : c = true := h
    subst h
    exact eqC_bits hcc ha hb _
theorem run_stays {old new : Value} (h : Instr.sameBits 10000 old new = true) : (Instr.keyThatStays old new).run P w = .ok new w := by
  unfold Instr.keyThatStays
  rw [if_pos h]
  rfl
theorem RMs.append : ∀ {l l' : List Me} {x x' : List MapEntry}, RMs ρ L l x → RMs ρ L l' x' → RMs ρ L (l ++ l') (x ++ x')
  | _, _, _, _, .nil, k => k
  | _, _, _, _, .cons h1 h2 h3 h4, k => .cons h1 h2 h3 (RMs.append h4 k)
theorem RMs.set : ∀ {l : List Me} {x : List MapEntry}, RMs ρ L l x → ∀ {j : Nat} {e : Me} {xe : MapEntry}, RV ρ L e.k xe.key → RV ρ L e.v xe.val → e.b = xe.born → RMs ρ L (l.set j e) (x.set j xe)
  | _, _, .nil, j, e, xe, _, _, _ => .nil
  | _, _, .cons h1 h2 h3 h4, 0, e, xe, k1, k2, k3 => .cons k1 k2 k3 h4
  | _, _, .cons h1 h2 h3 h4, j + 1, e, xe, k1, k2, k3 => .cons h1 h2 h3 (RMs.set h4 k1 k2 k3)
theorem RMs.erase : ∀ {l : List Me} {x : List MapEntry}, RMs ρ L l x → ∀ (j : Nat), RMs ρ L (l.eraseIdx j) (x.eraseIdx j)
  | _, _, .nil, j => .nil
  | _, _, .cons h1 h2 h3 h4, 0 => h4
  | _, _, .cons h1 h2 h3 h4, j + 1 => .cons h1 h2 h3 (RMs.erase h4 j)
theorem putM_ok {b : Nat} {l : List Me} {c : Nat} {u : V} (h : putM s b l c u = .ok v s') : v = u ∧ s' = ⟨s.h.put b (.map l c), s.nx⟩ := by
  unfold putM at h
  rw [sN_eq, Tr.set_put] at h
  obtain ⟨rfl, rfl⟩ := ok_inj h
  exact ⟨rfl, rfl⟩
theorem modify_set {es : Array MapEntry} {j : Nat} {f : MapEntry → MapEntry} {xe : MapEntry} (h : es[j]? = some xe) : (es.modify j f).toList = es.toList.set j (f xe) := by
  obtain ⟨hlt, hv⟩ := Array.getElem?_eq_some_iff.1 h
  apply List.ext_getElem?
  intro i
  rw [Array.getElem?_toList, Array.getElem?_modify, List.getElem?_set]
  by_cases c : j = i
  · subst c
    rw [if_pos rfl, if_pos rfl, if_pos (by simpa using hlt), h]
    rfl
  · rw [if_neg c, if_neg c, Array.getElem?_toList]
/-- The end of a key's putting in: what stands in the map behind it. -/
theorem upd_spec (hc : Ctx P T ρ w0) (h : Rel ρ w0 L s w) {b B base sz : Nat} {l : List Me} {c : Nat} (hb : s.h.get b = some (.map l c)) (hL : L b 0 = some (B, base, sz)) {es : Array MapEntry} (hB : w.heap[B]? = some (.map es c)) (hl : RMs ρ L l es.toList)
    {k : V} {x : Value} (hk : RV ρ L k x) {j : Option Nat} {old : V → V} {new : V} {fv : V → Nat → V} {f : Value → Value} {z : Value} (hf : ∀ u y, RV ρ L u y → RV ρ L (old u) (f y)) (hz : RV ρ L new z) (e : upd s b l c k j old new fv = .ok v s') {res : Option (Nat × Value)}
    (h1 : j = none → res = none) (h2 : ∀ q, j = some q → ∃ (e : Me) (xe : MapEntry), l[q]? = some e ∧ es.toList[q]? = some xe ∧ res = some (q, xe.val) ∧ RV ρ L e.k xe.key ∧ RV ρ L e.v xe.val ∧ e.b = xe.born) :
    (j = none ∧ res = none ∧ v = fv new c ∧ Rel ρ w0 L s' { w with heap := w.heap.setIfInBounds B (.map (es.push { key := x, val := z, born := c }) (c + 1)) }) ∨
    (∃ (q : Nat) (e : Me) (xe : MapEntry), res = some (q, xe.val) ∧ es[q]? = some xe ∧ v = fv (old e.v) xe.born ∧ RV ρ L e.v xe.val ∧ Instr.sameBits 10000 xe.key x = true ∧ Rel ρ w0 L s' { w with heap := w.heap.setIfInBounds B (.map (es.modify q fun u => { u with key := x, val := f xe.val }) c) }) := by
  unfold upd at e
  cases j with
  | none =>
    obtain ⟨rfl, rfl⟩ := putM_ok (show putM s b _ _ _ = _ from e)
    refine .inl ⟨rfl, h1 rfl, rfl, h.putMap hb hL ?_⟩
    rw [Array.toList_push]
    exact hl.append (.cons hk hz rfl .nil)
  | some q =>
    replace e := on_ok (show on (nth l q) Rv.no _ = _ from e)
    obtain ⟨en, hen, e⟩ := e
    replace e := cd_ok e
    obtain ⟨hke, e⟩ := e
    obtain ⟨rfl, rfl⟩ := putM_ok e
    rw [nth_eq] at hen
    obtain ⟨e', xe, g1, g2, g3, g4, g5, g6⟩ := h2 q rfl
    rw [hen] at g1
    injection g1 with g1
    subst g1
    have g2' : es[q]? = some xe := by simpa using g2
    refine .inr ⟨q, en, xe, g3, g2', by rw [g6], g5, keyEq_bits hke hk g4, h.putMap hb hL ?_⟩
    rw [modify_set g2']
    exact hl.set hk (hf _ _ g5) g6
theorem op_lookup {t : TypeId} {x k : Operand} {ok : Bool} (hc : Ctx P T ρ w0) (ho : o.op = .lookup t x k ok) (h : Rel ρ w0 L s w) (hr : Opd ρ L m r o.op.operands) (e : on (ev m x) Rv.no (fun v => on (ev m k) Rv.no fun k => lkp T t v k ok s) = .ok v s') : Good P ρ w0 L r o w v s' := by
  replace e := on_ok e
  obtain ⟨a, ha, e⟩ := e
  replace e := on_ok e
  obtain ⟨b, hb, e⟩ := e
  have hav := hr x (by simp [ho, Op.operands]) _ ha
  have hbv := hr k (by simp [ho, Op.operands]) _ hb
  unfold lkp at e
  replace e := on_ok e
  obtain ⟨q, hq, e⟩ := e
  have hp := mpK_spec hc hq
  replace e := cd_ok e
  obtain ⟨hko, e⟩ := e
  obtain ⟨d, hd⟩ := keyOk_und hc hko
  replace e := onMp_ok e
  obtain ⟨rr, hqq, e⟩ := e
  subst hqq
  have hck : ∀ em, (Instr.checkKey em 10000 q.1 (r k)).run P w = .ok () w := fun em => keyOk_spec hc 4 q.1 b (r k) hko hbv 10000 (by omega)
  -- what is found
  have fin : ∀ {es : Array MapEntry} {res : Option (Nat × Value)} {u : Option V}, ((r x = .map none ∧ es = #[]) ∨ ∃ B c, r x = .map (some B) ∧ w.heap[B]? = some (.map es c)) → (Instr.findKey q.1 (r k) es.toList).run P w = .ok res w → lkR T q.2 ok s u = .ok v s' →
      (u = none → res = none) → (∀ y, u = some y → ∃ j z, res = some (j, z) ∧ RV ρ L y z) → Good P ρ w0 L r o w v s' := by
    intro es res u f1 f2 f3 f4 f5
    unfold lkR at f3
    have hrun : ∀ {y : Value} {okk : Bool}, (∀ z, res = some z → y = z.2 ∧ okk = true) → (res = none → okk = false ∧ (zeroValue q.2).run P w = .ok y w) → (execOp r o).run P w = .ok (.value (if ok then .tuple #[y, .bool okk] else y)) w := by
      intro y okk hy1 hy2
      unfold execOp
      simp only [ho]
      rcases f1 with ⟨f1, rfl⟩ | ⟨B, c, f1, f6⟩
      · rw [f1]
        simp only [Instr.lookup, Sem.run_bind, run_underlying hp, Result.andThen_ok, Sem.run_pure, hck, f2]
        cases res with
        | none => obtain ⟨rfl, h9⟩ := hy2 rfl; simp [h9]
        | some z => obtain ⟨rfl, rfl⟩ := hy1 z rfl; simp
      · rw [f1]
        simp only [Instr.lookup, Sem.run_bind, run_underlying hp, Result.andThen_ok, Sem.run_pure, run_getObj_map f6, hck, f2]
        cases res with
        | none => obtain ⟨rfl, h9⟩ := hy2 rfl; simp [h9]
        | some z => obtain ⟨rfl, rfl⟩ := hy1 z rfl; simp
    cases u with
    | none =>
      replace f3 := on_ok (show on (zer T q.2) Rv.no _ = _ from f3)
      obtain ⟨z, hz, f3⟩ := f3
      obtain ⟨i, z', g1, g2, -, g4, g5⟩ := zer_spec hc hz
      have f4 := f4 rfl
      subst f4
      have hrun := hrun (y := z') (okk := false) (fun z hz => by cases hz) (fun _ => ⟨rfl, g5 w⟩)
      cases ok with
      | true =>
        obtain ⟨rfl, rfl⟩ := ok_inj f3
        exact .read h (.tup (.cons (g4 L) (.cons (.bool false) .nil))) hrun
      | false =>
        obtain ⟨rfl, rfl⟩ := ok_inj f3
        exact .read h (g4 L) hrun
    | some y =>
      obtain ⟨j, z, rfl, hyz⟩ := f5 y rfl
      have hrun := hrun (y := z) (okk := true) (fun z hz => by injection hz with hz; subst hz; exact ⟨rfl, rfl⟩) (fun hh => by cases hh)
      cases ok with
      | true =>
        obtain ⟨rfl, rfl⟩ := ok_inj (show Rv.ok _ _ = _ from f3)
        exact .read h (.tup (.cons hyz (.cons (.bool true) .nil))) hrun
      | false =>
        obtain ⟨rfl, rfl⟩ := ok_inj (show Rv.ok _ _ = _ from f3)
        exact .read h hyz hrun
  generalize hx : r x = z at hav
  cases rr with
  | none =>
    cases hav
    exact fin (es := #[]) (res := none) (u := none) (.inl ⟨hx, rfl⟩) (by
      unfold Instr.findKey
      simp only [Sem.run_bind, run_underlying hd, Result.andThen_ok]
      rfl) e (fun _ => rfl) (fun y hy => by cases hy)
  | some rr =>
    cases hav with
    | mp hL =>
      replace e := on_ok (show on (mapE s rr) Rv.no _ = _ from e)
      obtain ⟨l, hl, e⟩ := e
      replace e := on_ok e
      obtain ⟨j, hj, e⟩ := e
      obtain ⟨-, -, es, k2, k3⟩ := mapE_spec h hl hL
      obtain ⟨res, g1, g2, g3⟩ := findKey_run (w := w) hc hbv hd hj k3
      have hget : (r x = .map none ∧ es = #[]) ∨ ∃ B c, r x = .map (some B) ∧ w.heap[B]? = some (.map es c) := .inr ⟨_, _, hx, k2⟩
      cases j with
      | none => exact fin (u := none) hget g1 e (fun _ => g2 rfl) (fun y hy => by cases hy)
      | some j =>
        replace e := on_ok (show on (nth l.1 j) Rv.no _ = _ from e)
        obtain ⟨en, hen, e⟩ := e
        rw [nth_eq] at hen
        obtain ⟨e', xe, f1, f2, f3, f4, f5, f6⟩ := g3 j rfl
        rw [hen] at f1
        injection f1 with f1
        subst f1
        exact fin (u := some en.v) hget g1 e (fun hh => by cases hh) (fun y hy => by
          injection hy with hy
          subst hy
          exact ⟨j, xe.val, f3, f5⟩)
theorem op_update {t : TypeId} {x k u : Operand} (hc : Ctx P T ρ w0) (ho : o.op = .mapUpdate t x k u ∨ o.op = .insert t x k u) (h : Rel ρ w0 L s w) (hr : Opd ρ L m r o.op.operands) (e : on (ev m x) Rv.no (fun x => on (ev m k) Rv.no fun k => on (ev m u) Rv.no fun v => mup T t x k v s) = .ok v s') : Good P ρ w0 L r o w v s' := by
  replace e := on_ok e
  obtain ⟨a, ha, e⟩ := e
  replace e := on_ok e
  obtain ⟨b, hb, e⟩ := e
  replace e := on_ok e
  obtain ⟨c, hcv, e⟩ := e
  have hav := hr x (by rcases ho with ho | ho <;> simp [ho, Op.operands]) _ ha
  have hbv := hr k (by rcases ho with ho | ho <;> simp [ho, Op.operands]) _ hb
  have huv := hr u (by rcases ho with ho | ho <;> simp [ho, Op.operands]) _ hcv
  unfold mup at e
  replace e := on_ok e
  obtain ⟨q, hq, e⟩ := e
  have hp := mpK_spec hc hq
  replace e := cd_ok e
  obtain ⟨hko, e⟩ := e
  obtain ⟨d, hd⟩ := keyOk_und hc hko
  replace e := onMp_ok e
  obtain ⟨rr, hqq, e⟩ := e
  subst hqq
  replace e := on_ok e
  obtain ⟨b', hqq, e⟩ := e
  subst hqq
  replace e := on_ok e
  obtain ⟨l, hl, e⟩ := e
  replace e := on_ok e
  obtain ⟨j, hj, e⟩ := e
  have hck : ∀ em, (Instr.checkKey em 10000 q.1 (r k)).run P w = .ok () w := fun em => keyOk_spec hc 4 q.1 b (r k) hko hbv 10000 (by omega)
  generalize hx : r x = z at hav
  cases hav with
  | mp hL =>
    obtain ⟨k0, -, es, k2, k3⟩ := mapE_spec h hl hL
    obtain ⟨res, g1, g2, g3⟩ := findKey_run (w := w) hc hbv hd hj k3
    have hu := upd_spec (P := P) (f := fun _ => r u) (z := r u) hc h k0 hL k2 k3 hbv (fun _ _ _ => huv) huv e g2 g3
    rcases hu with ⟨-, f1, rfl, f2⟩ | ⟨jj, en, xe, f1, f2, rfl, f3, f4, f5⟩
    · subst f1
      refine ⟨undef, _, L, L.le_refl, f2, .tup .nil, .inr ⟨rfl, ?_⟩⟩
      rcases ho with ho | ho <;>
      · unfold execOp
        simp only [ho, hx]
        simp only [Instr.mapUpdate, Sem.run_bind, run_underlying hp, Result.andThen_ok, run_getObj_map k2, hck, g1, run_setObj_map k2]
        rfl
    · subst f1
      refine ⟨undef, _, L, L.le_refl, f5, .tup .nil, .inr ⟨rfl, ?_⟩⟩
      rcases ho with ho | ho <;>
      · unfold execOp
        simp only [ho, hx]
        simp only [Instr.mapUpdate, Sem.run_bind, run_underlying hp, Result.andThen_ok, run_getObj_map k2, hck, g1, f2, Option.map_some, Option.getD_some, run_stays f4, run_setObj_map k2]
        rfl
theorem op_entry {t : TypeId} {x k : Operand} (hc : Ctx P T ρ w0) (ho : o.op = .mapEntry t x k) (h : Rel ρ w0 L s w) (hr : Opd ρ L m r o.op.operands) (e : on (ev m x) Rv.no (fun x => on (ev m k) Rv.no fun k => mkE T t x k s) = .ok v s') : Good P ρ w0 L r o w v s' := by
  replace e := on_ok e
  obtain ⟨a, ha, e⟩ := e
  replace e := on_ok e
  obtain ⟨b, hb, e⟩ := e
  have hav := hr x (by simp [ho, Op.operands]) _ ha
  have hbv := hr k (by simp [ho, Op.operands]) _ hb
  unfold mkE at e
  replace e := on_ok e
  obtain ⟨q, hq, e⟩ := e
  have hp := mpK_spec hc hq
  replace e := cd_ok e
  obtain ⟨hko, e⟩ := e
  obtain ⟨d, hd⟩ := keyOk_und hc hko
  replace e := onMp_ok e
  obtain ⟨rr, hqq, e⟩ := e
  subst hqq
  replace e := on_ok e
  obtain ⟨b', hqq, e⟩ := e
  subst hqq
  replace e := on_ok e
  obtain ⟨l, hl, e⟩ := e
  replace e := on_ok e
  obtain ⟨z, hz, e⟩ := e
  replace e := on_ok e
  obtain ⟨j, hj, e⟩ := e
  obtain ⟨i, z', i1, i2, -, i4, i5⟩ := zer_spec hc hz
  have hck : ∀ em, (Instr.checkKey em 10000 q.1 (r k)).run P w = .ok () w := fun em => keyOk_spec hc 4 q.1 b (r k) hko hbv 10000 (by omega)
  generalize hx : r x = y at hav
  cases hav with
  | mp hL =>
    obtain ⟨k0, -, es, k2, k3⟩ := mapE_spec h hl hL
    obtain ⟨res, g1, g2, g3⟩ := findKey_run (w := w) hc hbv hd hj k3
    have hu := upd_spec (P := P) (f := fun y => y) (z := z') hc h k0 hL k2 k3 hbv (fun _ _ hh => hh) (i4 L) e g2 g3
    rcases hu with ⟨-, f1, rfl, f2⟩ | ⟨jj, en, xe, f1, f2, rfl, f3, f4, f5⟩
    · subst f1
      refine ⟨.tuple #[z', .int .i64 (l.2 : Int)], _, L, L.le_refl, f2, .tup (.cons (i4 L) (.cons (.int .i64 _) .nil)), .inl ?_⟩
      unfold execOp
      simp only [ho, hx]
      simp only [Instr.mapEntry, Sem.run_bind, run_underlying hp, Result.andThen_ok, run_getObj_map k2, hck, g1, i5, run_setObj_map k2]
      rfl
    · subst f1
      refine ⟨.tuple #[xe.val, .int .i64 (xe.born : Int)], _, L, L.le_refl, f5, .tup (.cons f3 (.cons (.int .i64 _) .nil)), .inl ?_⟩
      have hm : (es.modify jj fun u => { u with key := r k, val := xe.val }) = es.modify jj fun u => { u with key := r k } := by
        apply Array.ext'
        rw [modify_set f2, modify_set f2]
      rw [hm]
      unfold execOp
      simp only [ho, hx]
      simp only [Instr.mapEntry, Sem.run_bind, run_underlying hp, Result.andThen_ok, run_getObj_map k2, hck, g1, f2, Option.map_some, Option.getD_some, run_stays f4, run_setObj_map k2]
      rfl
theorem putE_spec {b : Nat} {u : V} {y : Value} (hu : RV ρ L u y) {k : List Me → Rv} : ∀ {l : List Me} {es : List MapEntry}, putE b u l k = .ok v s' → RMs ρ L l es → ∃ (l' : List Me) (j : Nat) (xe : MapEntry), k l' = .ok v s' ∧ es[j]? = some xe ∧ es.findIdx? (fun e => (e.born : Int) == (b : Int)) = some j ∧ RMs ρ L l' (es.set j { xe with val := y })
  | [], _, e, .nil => by cases e
  | en :: l, _, e, .cons (x := xe) (r := es) h1 h2 h3 h4 => by
    replace e : (bif Nat.beq en.b b then k (⟨en.k, u, b⟩ :: l) else putE b u l (fun r => k (en :: r))) = .ok v s' := e
    cases hb : Nat.beq en.b b with
    | true =>
      rw [hb, cond_true] at e
      have hb := beq_iff.1 hb
      refine ⟨_, 0, xe, e, rfl, by simp [List.findIdx?_cons, ← h3, hb], .cons h1 hu (by rw [← hb]; exact h3) h4⟩
    | false =>
      rw [hb, cond_false] at e
      have hb' : en.b ≠ b := fun q => by rw [q, Nat.beq_refl] at hb; cases hb
      obtain ⟨l', j, xe', k1, k2, k3, k4⟩ := putE_spec hu (k := fun r => k (en :: r)) e h4
      refine ⟨_, j + 1, xe', k1, by simpa using k2, ?_, .cons h1 h2 h3 k4⟩
      have : ((xe.born : Int) == (b : Int)) = false := by
        rw [← h3]
        simp
        omega
      rw [List.findIdx?_cons, this]
      simp [k3]
theorem op_entryStore {t : TypeId} {x b u : Operand} (hc : Ctx P T ρ w0) (ho : o.op = .entryStore t x b u) (h : Rel ρ w0 L s w) (hr : Opd ρ L m r o.op.operands) (e : on (ev m x) Rv.no (fun x => on (ev m b) Rv.no fun b => on (ev m u) Rv.no fun v => enS x b v s) = .ok v s') : Good P ρ w0 L r o w v s' := by
  replace e := on_ok e
  obtain ⟨a, ha, e⟩ := e
  replace e := on_ok e
  obtain ⟨bb, hb, e⟩ := e
  replace e := on_ok e
  obtain ⟨c, hcv, e⟩ := e
  have hav := hr x (by simp [ho, Op.operands]) _ ha
  have hbv := hr b (by simp [ho, Op.operands]) _ hb
  have huv := hr u (by simp [ho, Op.operands]) _ hcv
  unfold enS at e
  replace e := onMp_ok e
  obtain ⟨rr, hqq, e⟩ := e
  subst hqq
  replace e := on_ok e
  obtain ⟨b', hqq, e⟩ := e
  subst hqq
  replace e := onNat_ok e
  obtain ⟨kd, n, hqq, e⟩ := e
  subst hqq
  replace e := on_ok e
  obtain ⟨l, hl, e⟩ := e
  generalize hx : r x = y at hav
  generalize hy : r b = yb at hbv
  cases hbv
  cases hav with
  | mp hL =>
    obtain ⟨k0, -, es, k2, k3⟩ := mapE_spec h hl hL
    obtain ⟨l', j, xe, g1, g2, g3, g4⟩ := putE_spec huv e k3
    obtain ⟨rfl, rfl⟩ := putM_ok g1
    have g2' : es[j]? = some xe := by simpa using g2
    refine ⟨undef, _, L, L.le_refl, h.putMap (es := es.modify j fun e => { e with val := r u }) k0 hL (by rw [modify_set g2']; exact g4), .tup .nil, .inr ⟨rfl, ?_⟩⟩
    unfold execOp
    simp only [ho, hx, hy]
    have g3' : es.findIdx? (fun e => (e.born : Int) == (n : Int)) = some j := by rw [show es = es.toList.toArray from Array.toArray_toList.symm, List.findIdx?_toArray]; exact g3
    simp only [Instr.entryStore, Sem.run_bind, Result.andThen_ok, run_getObj_map k2, asInt, asIntOf, Sem.run_pure]
    rw [show (Int.ofNat n) = (n : Int) from rfl, g3']
    simp only [run_setObj_map k2, Result.andThen_ok]
theorem Made.obj {ob : Ob} {co : Obj} {vf : Nat → V} {xf : Nat → Value} (hg : ob.g = 0) (hrun : (execOp r o).run P w = .ok (.value (xf w.heap.size)) (w.alloc co)) (hv : v = vf s.nx) (hs : s' = ⟨s.h.put s.nx ob, s.nx + 1⟩)
    (hro : ∀ (L' : Loc) b, L.le L' → L' b 0 = some (w.heap.size, 0, 0) → (∀ B base sz, L' b 0 = some (B, base, sz) → B = w.heap.size ∧ base = 0) → w0.heap.size ≤ w.heap.size → RO ρ L' w0.heap.size (w.alloc co) b ob ∧ RV ρ L' (vf b) (xf w.heap.size)) : Made P ρ w0 L r o w s v s' := by
  refine ⟨ob, vf, hv, hs, hg, co, xf, 0, hrun, fun b hb hw => hro _ b (Loc.le_put hb _) (Loc.put_self _ _ _ _) (fun B base sz e => ?_) hw⟩
  rw [Loc.put_self] at e
  injection e with e
  injection e with e1 e2
  injection e2 with e2 e3
  exact ⟨e1.symm, e2.symm⟩
theorem op_range {t : TypeId} {x : Operand} (hc : Ctx P T ρ w0) (ho : o.op = .range t x) (h : Rel ρ w0 L s w) (hr : Opd ρ L m r o.op.operands) (e : on (ev m x) Rv.no (fun x => rng T t x s) = .ok v s') : Made P ρ w0 L r o w s v s' := by
  replace e := on_ok e
  obtain ⟨a, ha, e⟩ := e
  have hav := hr x (by simp [ho, Op.operands]) _ ha
  generalize hx : r x = y at hav
  have hnew : ∀ c : Obj, (w.alloc c).heap[w.heap.size]? = some c := fun c => by
    show (w.heap.push _)[w.heap.size]? = _
    simp
  unfold rng at e
  split at e
  · rename_i l hu
    rw [mkO_eq] at e
    obtain ⟨e1, e2⟩ := ok_inj e
    cases hav with
    | str sb =>
      refine Made.obj (ob := .si (sb.data.toList.map UInt8.toNat) 0) (co := .stringIter sb 0) (vf := fun b => .ptr (some (.own b 0 0))) (xf := fun B => .pointer (some ⟨B, 0, none⟩)) rfl ?_ e1.symm e2.symm (fun L' b hl hb h3 hw => ⟨?_, .ptr (by simpa using RA.own (o := 0) hb)⟩)
      · unfold execOp
        simp only [ho, hx]
        simp only [Instr.range, Sem.run_bind, run_underlying (und_spec hc hu), Result.andThen_ok, Sem.run_pure]
        rfl
      · intro B base sz q
        obtain ⟨rfl, rfl⟩ := h3 B base sz q
        exact ⟨hw, rfl, sb, hnew _, rfl⟩
  · rename_i k el hu
    rw [mkO_eq] at e
    obtain ⟨e1, e2⟩ := ok_inj e
    cases hav
    refine Made.obj (ob := .it none 0 [] 0) (co := .mapIter none 0 #[] 0) (vf := fun b => .ptr (some (.own b 0 0))) (xf := fun B => .pointer (some ⟨B, 0, none⟩)) rfl ?_ e1.symm e2.symm (fun L' b hl hb h3 hw => ⟨?_, .ptr (by simpa using RA.own (o := 0) hb)⟩)
    · unfold execOp
      simp only [ho, hx]
      simp only [Instr.range, Sem.run_bind, run_underlying (und_spec hc hu), Result.andThen_ok, Sem.run_pure]
      rfl
    · intro B base sz q
      obtain ⟨rfl, rfl⟩ := h3 B base sz q
      exact ⟨hw, rfl, none, hnew _, .none⟩
  · rename_i k el rr hu
    replace e := on_ok e
    obtain ⟨l, hl, e⟩ := e
    rw [mkO_eq] at e
    obtain ⟨e1, e2⟩ := ok_inj e
    cases hav with
    | mp hL =>
      rename_i R
      obtain ⟨k0, -, es, k2, k3⟩ := mapE_spec h hl hL
      refine Made.obj (ob := .it (some rr) l.2 [] l.2) (co := .mapIter (some R) l.2 #[] l.2) (vf := fun b => .ptr (some (.own b 0 0))) (xf := fun B => .pointer (some ⟨B, 0, none⟩)) rfl ?_ e1.symm e2.symm (fun L' b hl' hb h3 hw => ⟨?_, .ptr (by simpa using RA.own (o := 0) hb)⟩)
      · unfold execOp
        simp only [ho, hx]
        simp only [Instr.range, Sem.run_bind, run_underlying (und_spec hc hu), Result.andThen_ok, run_getObj_map k2, Sem.run_pure]
        rfl
      · intro B base sz q
        obtain ⟨rfl, rfl⟩ := h3 B base sz q
        exact ⟨hw, rfl, some R, hnew _, .some (hl' _ _ _ hL)⟩
  · cases e
end
end Go.RI
namespace Go.RI
open Go Go.RowKit
section
variable {P : Program} {T : Tb} {ρ : Env} {w0 w : World} {L : Loc} {s s' : St} {m : Fm} {v : V} {r : Operand → Value} {o : Oper}

theorem entR_spec {b : Nat} : ∀ {l : List Me} {es : List MapEntry}, entR b l s = .ok v s' → RMs ρ L l es → s' = s ∧ ∃ xe, es.find? (·.born == b) = some xe ∧ RV ρ L v (.tuple #[xe.key, xe.val])
  | [], _, e, .nil => by cases e
  | en :: l, _, e, .cons (x := xe) (r := es) h1 h2 h3 h4 => by
    replace e : (bif Nat.beq en.b b then Rv.ok (.tup [en.k, en.v]) s else entR b l s) = .ok v s' := e
    cases hb : Nat.beq en.b b with
    | true =>
      rw [hb, cond_true] at e
      obtain ⟨rfl, rfl⟩ := ok_inj e
      have hb := beq_iff.1 hb
      exact ⟨rfl, xe, by simp [List.find?_cons, ← h3, hb], .tup (.cons h1 (.cons h2 .nil))⟩
    | false =>
      rw [hb, cond_false] at e
      have hb' : en.b ≠ b := fun q => by rw [q, Nat.beq_refl] at hb; cases hb
      obtain ⟨h5, xe', h6, h7⟩ := entR_spec e h4
      refine ⟨h5, xe', ?_, h7⟩
      have : (xe.born == b) = false := by rw [← h3]; simpa using hb'
      rw [List.find?_cons, this]
      exact h6
theorem lastN_eq : ∀ (l : List Nat), l ≠ [] → l.getLast? = some (lastN l)
  | [], h => absurd rfl h
  | [x], _ => rfl
  | x :: y :: r, _ => by
    rw [List.getLast?_cons_cons, lastN_eq (y :: r) (by simp)]
    rfl
theorem op_ent {x : Operand} (hc : Ctx P T ρ w0) (ho : o.op = .entry x) (h : Rel ρ w0 L s w) (hr : Opd ρ L m r o.op.operands) (e : on (ev m x) Rv.no (fun x => ent x s) = .ok v s') : Good P ρ w0 L r o w v s' := by
  replace e := on_ok e
  obtain ⟨a, ha, e⟩ := e
  have hav := hr x (by simp [ho, Op.operands]) _ ha
  generalize hx : r x = y at hav
  unfold ent at e
  replace e := onPtr_ok e
  obtain ⟨p, hq, e⟩ := e
  subst hq
  replace e := onOwn_ok e
  obtain ⟨b, g, o', hq, e⟩ := e
  subst hq
  replace e := cd_ok e
  obtain ⟨h1, e⟩ := e
  obtain ⟨h1, h2⟩ := an_true h1
  have h1 := beq_iff.1 h1
  have h2 := beq_iff.1 h2
  subst h1 h2
  unfold entB at e
  split at e
  · rename_i rr since seen last hob
    replace e := on_ok e
    obtain ⟨l, hl, e⟩ := e
    replace e := cd_ok e
    obtain ⟨h3, e⟩ := e
    obtain ⟨h3, h4⟩ := an_true h3
    have h3 := beq_iff.1 h3
    have h4 : seen ≠ [] := by
      rintro rfl
      cases h4
    cases hav with
    | ptr hA => cases hA with
      | own hL =>
        obtain ⟨-, h0, m', f1, f2⟩ := h.obj b _ hob _ _ _ hL
        subst h0
        cases f2 with
        | some hR =>
          obtain ⟨k0, -, es, k2, k3⟩ := mapE_spec h hl hR
          obtain ⟨rfl, xe, g1, g2⟩ := entR_spec e k3
          refine .read h g2 ?_
          unfold execOp
          simp only [ho, hx]
          have hb : seen.toArray.back? = some (lastN seen) := by rw [List.back?_toArray]; exact lastN_eq _ h4
          have hgo : ∀ {B : Nat} {o : Obj}, w.heap[B]? = some o → (∀ c t f, o ≠ .cells c t f) → (getObj B).run P w = .ok o w := by
            intro B o h1 h2
            simp only [getObj, Sem.run, h1]
          simp only [Nat.add_zero, Instr.entry, Sem.run_bind, hgo f1 (by intro c t f q; cases q), Result.andThen_ok, hb, run_getObj_map k2]
          have hf : es.find? (·.born == lastN seen) = some xe := by rw [show es = es.toList.toArray from Array.toArray_toList.symm, List.find?_toArray]; exact g1
          simp [h3, hf]
  · cases e
theorem ifcK_spec {t : TypeId} (h : ifcK T t = true) : ∃ d, und T t = some d ∧ ∀ a, d ≠ .interface a := by
  unfold ifcK at h
  split at h
  · cases h
  · cases h
  · rename_i d hni hu
    exact ⟨d, hu, fun a q => hni a q⟩
/-- Is it an operation that makes a thing and does nothing else? -/
def isMk : Op → Bool
  | .alloc _ | .box _ _ | .buildSlice .. | .makeMap .. | .makeChan .. | .makeSlice .. => true
  | _ => false
theorem opv_made (hc : Ctx P T ρ w0) (hm : isMk o.op = true) (hr : Opd ρ L m r o.op.operands) (e : opv o.op T m s = .ok v s') : Made P ρ w0 L r o w s v s' := by
  cases ho : o.op <;> rw [ho] at hm e <;> first | (cases hm; done) | skip
  · rename_i t
    replace e := on_ok (show on (zer T t) Rv.no _ = _ from e)
    obtain ⟨z, hz, e⟩ := e
    unfold mkP at e
    rw [mk_eq] at e
    obtain ⟨e1, e2⟩ := ok_inj e
    exact ⟨_, _, e1.symm, e2.symm, rfl, op_alloc hc ho hz⟩
  · rename_i t x
    replace e := on_ok (show on (ev m x) Rv.no _ = _ from e)
    obtain ⟨z, hz, e⟩ := e
    unfold mkP at e
    rw [mk_eq] at e
    obtain ⟨e1, e2⟩ := ok_inj e
    exact ⟨_, _, e1.symm, e2.symm, rfl, op_box hc ho hr hz⟩
  · exact op_buildSlice hc ho hr e
  · rename_i t q
    replace e := cd_ok (show cd (isNo q) _ Rv.no = _ from e)
    obtain ⟨hq, e⟩ := e
    exact op_makeMap ho (by cases q with | none => rfl | some _ => cases hq) e
  · rename_i t n
    replace e := on_ok (show on (ev m n) Rv.no _ = _ from e)
    obtain ⟨z, hz, e⟩ := e
    unfold mkC at e
    replace e := on_ok e
    obtain ⟨b, hb, e⟩ := e
    replace e := onNat_ok e
    obtain ⟨kd, k, hq, e⟩ := e
    subst hq
    replace e := cd_ok e
    obtain ⟨h3, e⟩ := e
    obtain ⟨h1, h2⟩ := an_true h3
    have h1 := Nat.le_of_ble_eq_true h1
    have h2 := Nat.le_of_ble_eq_true h2
    unfold chK at hb
    split at hb
    · rename_i d el hu
      replace hb := on_some hb
      obtain ⟨i, hi, hb⟩ := hb
      injection hb with hb
      subst hb
      have hzv := hr n (by simp [ho, Op.operands]) _ hz
      generalize hx : r n = y at hzv
      cases hzv
      exact op_makeChan hc ho hr (und_spec hc hu) (hc.ty _ _ hi) ⟨h1, h2⟩ hx e
    · cases hb
  · exact op_makeSlice hc ho hr e
theorem opv_good (hc : Ctx P T ρ w0) (h : Rel ρ w0 L s w) (hr : Opd ρ L m r o.op.operands) (e : opv o.op T m s = .ok v s') : Good P ρ w0 L r o w v s' := by
  by_cases hm : isMk o.op = true
  · exact (opv_made hc hm hr e).good h
  · cases ho : o.op <;> rw [ho] at hm e <;> first | (exact absurd rfl hm) | (cases e; done) | skip
    · exact op_move (.inl ho) h hr e
    · exact op_move (.inr ho) h hr e
    · exact op_pick ho h hr e
    · exact op_build hc ho h hr e
    · exact op_update hc (.inr ho) h hr e
    · exact op_load hc ho h hr e
    · exact op_store hc ho h hr e
    · exact op_nil ho h hr e
    · exact op_bin hc ho h hr e
    · exact op_un ho h hr e
    · exact op_convert hc ho h hr e
    · rename_i t x
      replace e := cd_ok (show cd (ifcK T t) _ Rv.no = _ from e)
      obtain ⟨h1, e⟩ := e
      exact op_iface hc ho (ifcK_spec h1) h hr e
    · exact op_func ho h hr e
    · exact op_slice hc ho h hr e
    · exact op_fieldAddr hc ho h hr e
    · exact op_field hc ho h hr e
    · exact op_indexAddr hc ho h hr e
    · exact op_index hc ho h hr e
    · exact op_lookup hc ho h hr e
    · exact op_update hc (.inl ho) h hr e
    · exact op_entry hc ho h hr e
    · exact op_entryStore hc ho h hr e
    · exact (op_range hc ho h hr e).good h
    · exact op_ent hc ho h hr e
    · exact op_assert hc ho h hr e
    · exact op_extract ho h hr e
end
end Go.RI
namespace Go.RI
open Go Go.RowKit
section
variable {P : Program} {T : Tb} {ρ : Env} {w0 w : World} {L : Loc} {s s' : St} {m : Fm} {v : V} {r : Operand → Value} {o : Oper}

/-! built-in functions -/
/-- A built-in's end: its world is related again. -/
def Blt (P : Program) (ρ : Env) (w0 : World) (L : Loc) (v : V) (s' : St) (q : Sem Value) (w : World) : Prop := ∃ x w' L', L.le L' ∧ Rel ρ w0 L' s' w' ∧ RV ρ L' v x ∧ q.run P w = .ok x w'
theorem und1_spec (hc : Ctx P T ρ w0) {ts : List TypeId} {d : TypeDesc} (h : und1 T ts = some d) : ∃ t q, ts = t :: q ∧ P.underlying t = some d := by
  cases ts with
  | nil => cases h
  | cons t q => exact ⟨t, q, rfl, und_spec hc h⟩
theorem apK_spec (hc : Ctx P T ρ w0) {ts : List TypeId} {q : TypeId × Nat × Nat} (h : apK T ts = some q) : ∃ t r i z, ts = t :: r ∧ P.underlying t = some (.slice q.1) ∧ P.info? q.1 = some i ∧ i.size = q.2.1 ∧ i.bytes = q.2.2 ∧ 0 < i.size ∧ i.zero = some z ∧ z.cells.size = i.size := by
  unfold apK at h
  split at h
  · rename_i e hu
    replace h := on_some h
    obtain ⟨i, hi, h⟩ := h
    replace h := on_some h
    obtain ⟨z, hz, h⟩ := h
    replace h := cd_some h
    obtain ⟨h1, h⟩ := h
    obtain ⟨h1, h2⟩ := an_true h1
    injection h with h
    subst h
    obtain ⟨t, r, g1, g2⟩ := und1_spec hc hu
    obtain ⟨i', z', k1, k2, k3, k4, -⟩ := zer_spec hc hz
    rw [hi] at k3
    injection k3 with k3
    subst k3
    have hl := ((k4 (fun _ _ => none)).cs hc.un).length
    have h2 := beq_iff.1 h2
    rw [len_eq] at h2
    exact ⟨t, r, i, z', g1, g2, k1, rfl, rfl, Nat.blt_eq.mp h1, k2, by simp at hl; omega⟩
  · cases h
/-- The types that append is called with. -/
def Zt (P : Program) (ts : Array TypeId) (t : TypeId) : Prop := ts = #[t] ∨ ∃ u, ts = #[t, u] ∧ ((∃ e, P.underlying u = some (.slice e)) ∨ P.underlying u = some .string)
theorem zK_spec (hc : Ctx P T ρ w0) {t : TypeId} {q : List TypeId} (h : zK T (t :: q) = true) : Zt P (t :: q).toArray t := by
  unfold zK at h
  split at h
  · rename_i e
    injection e with e1 e2
    subst e2
    exact .inl rfl
  · rename_i u e
    injection e with e1 e2
    subst e2
    refine .inr ⟨u, rfl, ?_⟩
    split at h
    · rename_i x hu
      exact .inl ⟨x, und_spec hc hu⟩
    · rename_i hu
      exact .inr (und_spec hc hu)
    · cases h
  · cases h
/-- append, there being room. -/
theorem app_room {ts : Array TypeId} {t ty e : TypeId} {A : Addr} {n c k wd : Nat} {y : Value} {xs : List Value} {w' : World} (ht : P.underlying t = some (.slice e)) (hw : ∀ w, (sizeOf e).run P w = .ok wd w) (hz : Zt P ts t) (hl : (Builtin.lenOf y).run P w = .ok k w) (hf : (Builtin.firstCells wd k y).run P w = .ok xs.toArray w) (hroom : n + k ≤ c) (hs : (storeCells (A.add (n * wd)) xs).run P w = .ok () w') :
    (Builtin.append_ ts ty #[.slice (some A) n c, y]).run P w = .ok (.slice (some A) (n + k) c) w' := by
  rcases hz with rfl | ⟨u, rfl, ⟨el, hu⟩ | hu⟩
  · simp [Builtin.append_, run_underlying ht, hw, hl, hroom, hf, hs]
  · simp [Builtin.append_, run_underlying ht, run_underlying hu, hw, hl, hroom, hf, hs]
  · simp [Builtin.append_, run_underlying ht, run_underlying hu, hw, hl, hroom, hf, hs]
theorem app_none {ts : Array TypeId} {t ty e : TypeId} {n c k wd : Nat} {A : Option Addr} {y : Value} (ht : P.underlying t = some (.slice e)) (hw : ∀ w, (sizeOf e).run P w = .ok wd w) (hz : Zt P ts t) (hl : (Builtin.lenOf y).run P w = .ok 0 w) (hf : (Builtin.firstCells wd 0 y).run P w = .ok #[] w) (hroom : n ≤ c) :
    (Builtin.append_ ts ty #[.slice A n c, y]).run P w = .ok (.slice A n c) w := by
  rcases hz with rfl | ⟨u, rfl, ⟨el, hu⟩ | hu⟩ <;> cases A
  · simp [Builtin.append_, run_underlying ht, hw, hl, hroom, hf, storeCells]
  · simp [Builtin.append_, run_underlying ht, hw, hl, hroom, hf, storeCells]
  · simp [Builtin.append_, run_underlying ht, run_underlying hu, hw, hl, hroom, hf, storeCells]
  · simp [Builtin.append_, run_underlying ht, run_underlying hu, hw, hl, hroom, hf, storeCells]
  · simp [Builtin.append_, run_underlying ht, run_underlying hu, hw, hl, hroom, hf, storeCells]
  · simp [Builtin.append_, run_underlying ht, run_underlying hu, hw, hl, hroom, hf, storeCells]
/-- append, there being no room. -/
theorem app_grow {ts : Array TypeId} {t ty e : TypeId} {A : Option Addr} {n c k wd : Nat} {i : TypeInfo} {z : Value} {y : Value} {xs olds : List Value} (ht : P.underlying t = some (.slice e)) (hi : P.info? e = some i) (hw : i.size = wd) (hiz : i.zero = some z) (hz : Zt P ts t) (hl : (Builtin.lenOf y).run P w = .ok k w) (hf : ∀ W : World, W.heap = w.heap → (Builtin.firstCells wd k y).run P W = .ok xs.toArray W) (ho : ∀ W : World, W.heap = w.heap → (Builtin.firstCells wd n (.slice A n c)).run P W = .ok olds.toArray W) (hroom : c < n + k) (hb : (n + k) * i.bytes ≤ 1000000) (h63 : n + k ≤ 1000000000) :
    (Builtin.append_ ts ty #[.slice A n c, y]).run P w = .ok (.slice (some ⟨w.heap.size, 0, none⟩) (n + k) (grownCap w (n + k) c e)) (w.drew.alloc (.cells (olds ++ (xs ++ (Builtin.zeroCells z.cells (grownCap w (n + k) c e - (n + k))).toList)).toArray e)) := by
  have hn : ¬ (n + k ≤ c) := by omega
  have h63' : ¬ (9223372036854775807 < ((n : Int) + (k : Int))) := by omega
  have h48 := growslice_fits hroom (bytes := i.bytes) (by omega)
  have h48' : ¬ (281474976710656 < Builtin.nextslicecap (n + k) c * i.bytes) := by omega
  have hf' := hf w.drew rfl
  have ho' := ho w.drew rfl
  subst hw
  have fin : ∀ (q : Sem Value), q.run P w = (((Builtin.firstCells i.size n (.slice A n c)).run P w.drew).andThen fun a w' => ((Builtin.firstCells i.size k y).run P w').andThen fun b w' => (newRow e (a ++ b ++ Builtin.zeroCells z.cells (grownCap w (n + k) c e - (n + k)))).run P w' |>.andThen fun r w' => .ok (.slice (some r) (n + k) (grownCap w (n + k) c e)) w') → q.run P w = .ok (.slice (some ⟨w.heap.size, 0, none⟩) (n + k) (grownCap w (n + k) c e)) (w.drew.alloc (.cells (olds ++ (xs ++ (Builtin.zeroCells z.cells (grownCap w (n + k) c e - (n + k))).toList)).toArray e)) := by
    intro q hq
    rw [hq, ho']
    simp only [Result.andThen_ok, hf']
    show Result.ok _ _ = _
    congr 4
    apply Array.ext'
    simp
  rcases hz with rfl | ⟨u, rfl, ⟨el, hu⟩ | hu⟩
  · refine fin _ ?_
    simp [Builtin.append_, run_underlying ht, sizeOf, typeInfo, zeroValue, hi, hiz, hl, hn, h63', h48', Question.forced, grownCap]
  · refine fin _ ?_
    simp [Builtin.append_, run_underlying ht, run_underlying hu, sizeOf, typeInfo, zeroValue, hi, hiz, hl, hn, h63', h48', Question.forced, grownCap]
  · refine fin _ ?_
    simp [Builtin.append_, run_underlying ht, run_underlying hu, sizeOf, typeInfo, zeroValue, hi, hiz, hl, hn, h63', h48', Question.forced, grownCap]
/-- The cells that are laid behind: of a slice, or of a text. -/
theorem newC_spec (hc : Ctx P T ρ w0) (h : Rel ρ w0 L s w) {wd : Nat} {x : V} {k : List V → Rv} {y : Value} (hx : RV ρ L x y) {n : Nat} (hn : lenV x = some n) (hstr : ∀ l, x = .str l → wd = 1) (e : newC T s wd x k = .ok v s') :
    ∃ l xs, k l = .ok v s' ∧ RVs ρ L l xs ∧ xs.length = n * wd ∧ (Builtin.lenOf y).run P w = .ok n w ∧ ∀ W : World, W.heap = w.heap → (Builtin.firstCells wd n y).run P W = .ok xs.toArray W := by
  unfold newC at e
  split at e
  · rename_i l
    have := hstr l rfl
    subst this
    injection hn with hn
    subst hn
    cases hx with
    | str sb =>
      refine ⟨_, _, e, rvs_bytesV sb.data.toList, by rw [len_eq]; simp, ?_, fun W hW => ?_⟩
      · rw [len_eq]; simp [Builtin.lenOf]
      · rw [len_eq]
        simp only [Builtin.firstCells, Sem.run_pure]
        congr 1
        apply Array.ext'
        simp [ByteArray.data_extract]
  · injection hn with hn
    subst hn
    cases hx
    exact ⟨[], [], e, .nil, by simp, rfl, fun W hW => rfl⟩
  · rename_i p n' c
    injection hn with hn
    subst hn
    replace e := on_ok e
    obtain ⟨l, hl, e⟩ := e
    cases hx with
    | sl hA hnc =>
      obtain ⟨xs, k1, k2, k3, k4⟩ := rd_spec hc h hA hl
      refine ⟨l, xs, e, k1, k2, rfl, fun W hW => ?_⟩
      have := run_loadCells_list (P := P) W _ xs (fun j u hu => by rw [World.cell?_of_block (w := w) (by rw [hW])]; exact k4 j u hu)
      rw [k2] at this
      exact this
  · rename_i p n' w'
    injection hn with hn
    subst hn
    replace e := on_ok e
    obtain ⟨l, hl, e⟩ := e
    cases hx with
    | sg hL hnc hroom =>
      obtain ⟨xs, k1, k2, k3, k4⟩ := rd_spec hc h (.own hL) hl
      refine ⟨l, xs, e, k1, k2, rfl, fun W hW => ?_⟩
      have := run_loadCells_list (P := P) W _ xs (fun j u hu => by rw [World.cell?_of_block (w := w) (by rw [hW])]; exact k4 j u hu)
      rw [k2] at this
      exact this
  · cases e
end
end Go.RI
namespace Go.RI
open Go Go.RowKit
section
variable {P : Program} {T : Tb} {ρ : Env} {w0 w : World} {L : Loc} {s s' : St} {m : Fm} {v : V} {r : Operand → Value} {o : Oper}

/-- A thing of no place gets one: whichever nothing else has. -/
theorem Rel.relay (h : Rel ρ w0 L s w) {b : Nat} {o : Ob} (hb : s.h.get b = some o) (hlt : b < s.nx) (hnr : ¬ ρ.res b) (hn : L b o.g = none) {x : Nat × Nat × Nat} (hx : ∀ (b' : Nat) (u : Ob) (y : Nat × Nat × Nat), b' ≠ b → s.h.get b' = some u → L b' u.g = some y → y.1 ≠ x.1) {w' : World} (hw : Below w0.heap.size w0 w')
    (ho : RO ρ (L.put b o.g x) w0.heap.size w' b o) (hk : ∀ k, k ≠ x.1 → k < w.heap.size → w'.heap[k]? = w.heap[k]?) : L.le (L.put b o.g x) ∧ Rel ρ w0 (L.put b o.g x) s w' := by
  refine ⟨Loc.le_put hn _, hw, fun b' g hb' => ?_, fun b' u g hb' hg' => ?_, fun b' hb' => ⟨(h.res b' hb').1, fun g => (Loc.put_ne (fun q => hnr (by rw [← q.1]; exact hb'))).trans ((h.res b' hb').2 g)⟩, fun b' u hb' => ?_, fun b1 b2 o1 o2 x1 x2 hne h1 h2 e1 e2 => ?_⟩
  · rw [Loc.put_ne (fun e => by have := e.1; omega)]; exact h.fresh b' g hb'
  · rw [Loc.put_ne (fun e => by
      obtain ⟨rfl, rfl⟩ := e
      rw [hb] at hb'
      injection hb' with hb'
      subst hb'
      omega)]
    exact h.top b' u g hb' hg'
  · by_cases e : b' = b
    · subst e
      rw [hb] at hb'
      injection hb' with hb'
      subst hb'
      exact ho
    · exact (h.obj b' u hb').keep (Loc.le_put hn _) (fun y hy => by rw [Loc.put_ne (fun q => e q.1)] at hy; exact hy) (fun y hy => hk _ (hx b' u y e hb' hy) ((h.obj b' u hb').lt hy).1)
  · by_cases c1 : b1 = b
    · subst c1
      rw [hb] at h1
      injection h1 with h1
      subst h1
      rw [Loc.put_self] at e1
      injection e1 with e1
      rw [Loc.put_ne (fun q => hne q.1.symm)] at e2
      subst e1
      exact fun q => hx b2 o2 x2 (fun q => hne q.symm) h2 e2 q.symm
    · rw [Loc.put_ne (fun q => c1 q.1)] at e1
      by_cases c2 : b2 = b
      · subst c2
        rw [hb] at h2
        injection h2 with h2
        subst h2
        rw [Loc.put_self] at e2
        injection e2 with e2
        subst e2
        exact hx b1 o1 x1 c1 h1 e1
      · rw [Loc.put_ne (fun q => c2 q.1)] at e2
        exact h.inj b1 b2 o1 o2 x1 x2 hne h1 h2 e1 e2
/-- What a row of ours is, where it lies. -/
theorem RO.mkRow {B0 B base sz n g z b : Nat} {t : TypeId} {c : Tr V} (hL : L b g = some (B, base, sz)) (hB : B0 ≤ B) (h0 : base = 0) {C : Array Value} {fz : Nat × Nat} (h1 : w.heap[B]? = some (.cells C t fz)) (h2 : C.size = sz) (h3 : n ≤ sz) (h4 : z = 0 → fz = (0, 0)) (h5 : z = 1 → sz ≤ fz.1 ∨ fz.2 = 0)
    (h6 : ∀ i v, i < n → c.get i = some v → ∃ x, C[i]? = some x ∧ RV ρ L v x) : RO ρ L B0 w b (.row t n g z c) := by
  intro B' base' sz' e
  rw [hL] at e
  injection e with e
  injection e with e1 e2
  injection e2 with e2 e3
  subst e1 e2 e3 h0
  exact ⟨hB, rfl, C, fz, h1, h2, by omega, h4, h5, fun i v hi hv => by rw [Nat.zero_add]; exact h6 i v hi hv⟩
/-- A new row. -/
theorem Rel.row_new (h : Rel ρ w0 L s w) {t : TypeId} {l : List V} {xs ys : List Value} (hl : RVs ρ L l xs) {fz : Nat} {f : Nat × Nat} (hf : fz = 0 → f = (0, 0)) (hf1 : fz = 1 → (xs ++ ys).length ≤ f.1 ∨ f.2 = 0) :
    L.le (L.put s.nx 0 (w.heap.size, 0, (xs ++ ys).length)) ∧ Rel ρ w0 (L.put s.nx 0 (w.heap.size, 0, (xs ++ ys).length)) ⟨s.h.put s.nx (.row t l.length 0 fz (wrT l 0 .lf)), s.nx + 1⟩ (w.alloc (.cells (xs ++ ys).toArray t f)) := by
  have hn : L s.nx 0 = none := h.fresh _ 0 (Nat.le_refl _)
  have hn' := hl.length
  refine ⟨Loc.le_put hn _, (h.more (.row t l.length 0 fz (wrT l 0 .lf))).lay (b := s.nx) (o := .row t l.length 0 fz (wrT l 0 .lf)) (Tr.get_put_self _ _ _) (by simp) h.free hn _ _ ?_⟩
  refine RO.mkRow (C := (xs ++ ys).toArray) (fz := f) (Loc.put_self _ _ _ _) h.below.size rfl (by show (w.heap.push _)[w.heap.size]? = _; simp) (by simp) (by simp; omega) hf hf1 fun i v hi hv' => ?_
  rw [wrT_get, if_pos (by omega)] at hv'
  obtain ⟨u, k1, k2⟩ := hl.get hv'
  have : i < xs.length := by omega
  exact ⟨u, by simpa [List.getElem?_append_left this] using k1, k2.mono (Loc.le_put hn _)⟩
theorem zeroCells_size (z : Array Value) (n : Nat) : (Builtin.zeroCells z n).toList.length = n * z.size := by simp [Builtin.zeroCells]
/-- The end of an append that makes a new row. -/
theorem grow_end (hc : Ctx P T ρ w0) (h : Rel ρ w0 L s w) {q : TypeId × Nat × Nat} {ts : Array TypeId} {t ty : TypeId} {i : TypeInfo} {z : Value} {A : Option Addr} {n c k fz : Nat} {y : Value} {lo ln : List V} {olds xs : List Value} (ht : P.underlying t = some (.slice q.1)) (hi : P.info? q.1 = some i) (hw : i.size = q.2.1) (hiz : i.zero = some z) (hzs : z.cells.size = i.size) (hz : Zt P ts t) (hl : (Builtin.lenOf y).run P w = .ok k w) (hf : ∀ W : World, W.heap = w.heap → (Builtin.firstCells q.2.1 k y).run P W = .ok xs.toArray W) (ho : ∀ W : World, W.heap = w.heap → (Builtin.firstCells q.2.1 n (.slice A n c)).run P W = .ok olds.toArray W) (hroom : c < n + k) (hb : (n + k) * i.bytes ≤ 1000000) (h63 : n + k ≤ 1000000000)
    (h1 : RVs ρ L lo olds) (h2 : RVs ρ L ln xs) (ho' : olds.length = n * q.2.1) (hx' : xs.length = k * q.2.1) (e : apNew s q.1 (lo ++ ln) (n + k) q.2.1 fz = .ok v s') : Blt P ρ w0 L v s' (Builtin.append_ ts ty #[.slice A n c, y]) w := by
  unfold apNew at e
  rw [mk_eq] at e
  obtain ⟨rfl, rfl⟩ := ok_inj e
  have hg := app_grow (ty := ty) ht hi hw hiz hz hl hf ho hroom hb h63
  have hge := grownCap_ge w (n + k) c q.1
  generalize grownCap w (n + k) c q.1 = cap at hg hge
  obtain ⟨k1, k2⟩ := (h.drew (w.drawn + 1)).row_new (t := q.1) (ys := (Builtin.zeroCells z.cells (cap - (n + k))).toList) (h1.append h2) (fz := fz) (f := (0, 0)) (fun _ => rfl) (fun _ => .inr rfl)
  have hlen : ((olds ++ xs) ++ (Builtin.zeroCells z.cells (cap - (n + k))).toList).length = cap * q.2.1 := by
    rw [List.length_append, List.length_append, zeroCells_size, hzs, hw, ho', hx', ← Nat.add_mul, ← Nat.add_mul]
    congr 1
    omega
  rw [hlen] at k1 k2
  refine ⟨_, _, _, k1, ?_, ?_, hg⟩
  · rw [← List.append_assoc]
    exact k2
  · have := RV.sg (ρ := ρ) (n := n + k) (w := q.2.1) (o := 0) (c := cap) (Loc.put_self L s.nx 0 (w.heap.size, 0, cap * q.2.1)) hge (by omega)
    simpa using this
/-- The cells that are there already. -/
theorem olds_spec (hc : Ctx P T ρ w0) (h : Rel ρ w0 L s w) {p : Pl} {a : Addr} (ha : RA L p a) {n wd : Nat} {l : List V} (hl : rd T s p (n * wd) = some l) : ∃ xs, RVs ρ L l xs ∧ xs.length = n * wd ∧ ∀ (c : Nat) (W : World), W.heap = w.heap → (Builtin.firstCells wd n (.slice (some a) n c)).run P W = .ok xs.toArray W := by
  obtain ⟨xs, k1, k2, k3, k4⟩ := rd_spec hc h ha hl
  refine ⟨xs, k1, k2, fun c W hW => ?_⟩
  have := run_loadCells_list (P := P) W _ xs (fun j u hu => by rw [World.cell?_of_block (w := w) (by rw [hW])]; exact k4 j u hu)
  rw [k2] at this
  exact this
/-- What append knows of its types. -/
structure ApT (P : Program) (ts : Array TypeId) (t : TypeId) (q : TypeId × Nat × Nat) (i : TypeInfo) (z : Value) : Prop where
  ht : P.underlying t = some (.slice q.1)
  hi : P.info? q.1 = some i
  hw : i.size = q.2.1
  hb : i.bytes = q.2.2
  hpos : 0 < i.size
  hiz : i.zero = some z
  hzs : z.cells.size = i.size
  hz : Zt P ts t
theorem ApT.size {ts : Array TypeId} {t : TypeId} {q : TypeId × Nat × Nat} {i : TypeInfo} {z : Value} (h : ApT P ts t q i z) (w : World) : (sizeOf q.1).run P w = .ok q.2.1 w := by simp [sizeOf, typeInfo, h.hi, h.hw]
section
variable {ts : Array TypeId} {t ty : TypeId} {q : TypeId × Nat × Nat} {i : TypeInfo} {z : Value}
theorem apSl_spec (hc : Ctx P T ρ w0) (h : Rel ρ w0 L s w) (ht : ApT P ts t q i z) {x : V} {y : Value} (hx : RV ρ L x y) {pl : Option Pl} {p : Value} {n c k : Nat} (ha : RV ρ L (.sl pl n c) p) (hk : lenV x = some k) (hkpos : 0 < k) (hstr : ∀ l, x = .str l → q.2.1 = 1) (hb : (n + k) * i.bytes ≤ 1000000) (h63 : n + k ≤ 1000000000) (e : apSl T s q.1 q.2.1 pl n c (n + k) x = .ok v s') : Blt P ρ w0 L v s' (Builtin.append_ ts ty #[p, y]) w := by
  unfold apSl at e
  cases ha with
  | sl0 =>
    replace e : newC T s q.2.1 x (fun l => apNew s q.1 l (0 + k) q.2.1 0) = .ok v s' := e
    obtain ⟨l, xs, e, g1, g2, g3, g4⟩ := newC_spec hc h hx hk hstr e
    exact grow_end hc h (lo := []) ht.ht ht.hi ht.hw ht.hiz ht.hzs ht.hz g3 g4 (olds := []) (fun W _ => rfl) (by omega) hb h63 .nil g1 (by simp) g2 e
  | @sl p a _ _ hA hn =>
    replace e : cd (Nat.ble (n + k) c) (newC T s q.2.1 x fun l => pAdd p (Nat.mul n q.2.1) fun q => match wr s q l with
                | .ok _ s => .ok (.sl (some p) (n + k) c) s
                | .no => .no) (on (rd T s p (Nat.mul n q.2.1)) .no fun old => newC T s q.2.1 x fun l => apNew s q.1 (old ++ l) (n + k) q.2.1 0) = .ok v s' := e
    cases hr : Nat.ble (n + k) c with
    | true =>
      rw [hr, cd_true] at e
      obtain ⟨l, xs, e, g1, g2, g3, g4⟩ := newC_spec hc h hx hk hstr e
      rw [pAdd_eq] at e
      cases hwr : wr s (p.plus (Nat.mul n q.2.1)) l with
      | no => rw [hwr] at e; cases e
      | ok u s1 =>
        rw [hwr] at e
        obtain ⟨rfl, rfl⟩ := ok_inj e
        obtain ⟨-, w', k1, k2⟩ := wr_spec hc (P := P) h (hA.add _) g1 hwr
        exact ⟨_, w', L, L.le_refl, k2, .sl hA (Nat.le_of_ble_eq_true hr), app_room ht.ht ht.size ht.hz g3 (g4 w rfl) (Nat.le_of_ble_eq_true hr) k1⟩
    | false =>
      rw [hr, cd_false] at e
      replace e := on_ok e
      obtain ⟨old, hold, e⟩ := e
      obtain ⟨l, xs, e, g1, g2, g3, g4⟩ := newC_spec hc h hx hk hstr e
      obtain ⟨olds, k1, k2, k3⟩ := olds_spec (P := P) hc h hA (n := n) (wd := q.2.1) hold
      exact grow_end hc h ht.ht ht.hi ht.hw ht.hiz ht.hzs ht.hz g3 g4 (k3 c) (Nat.lt_of_not_le fun hh => by rw [Nat.ble_eq_true_of_le hh] at hr; cases hr) hb h63 k1 g1 k2 g2 e
theorem apSg_spec (hc : Ctx P T ρ w0) (h : Rel ρ w0 L s w) (ht : ApT P ts t q i z) {x : V} {y : Value} (hx : RV ρ L x y) {pl : Pl} {p : Value} {n k : Nat} (ha : RV ρ L (.sg pl n q.2.1) p) (hk : lenV x = some k) (hkpos : 0 < k) (hstr : ∀ l, x = .str l → q.2.1 = 1) (hb : (n + k) * i.bytes ≤ 1000000) (h63 : n + k ≤ 1000000000) (e : apSg T s q.1 q.2.1 pl n (n + k) x = .ok v s') : Blt P ρ w0 L v s' (Builtin.append_ ts ty #[p, y]) w := by
  unfold apSg at e
  replace e := onOwn_ok e
  obtain ⟨b, g, o, rfl, e⟩ := e
  replace e := on_ok e
  obtain ⟨ob, hob, e⟩ := e
  replace e := onRow_ok e
  obtain ⟨t', z', g', fz, cs, rfl, e⟩ := e
  replace e := cd_ok e
  obtain ⟨e0, e⟩ := e
  obtain ⟨e1, e2⟩ := an_true e0
  have := beq_iff.1 e1
  subst this
  have hfz : fz < 2 := Nat.blt_eq.mp e2
  have hlt : b < s.nx := Nat.lt_of_not_le fun hh => by
    cases ha with
    | sg hL => rw [h.fresh b g hh] at hL; cases hL
  cases ha with
  | @sg _ _ _ _ _ B base sz c hL hnc hroom =>
    replace e := newC_spec hc h hx hk hstr e
    obtain ⟨l, xs, e, g1, g2, g3, g4⟩ := e
    obtain ⟨hB, hb0, C, f, a1, a2, a3, a4, a5, a6⟩ := h.row hob hL
    subst hb0
    have hll := g1.length
    cases hin : an (Nat.beq o 0) (Nat.beq (Nat.mul n q.2.1) z') with
    | true =>
      rw [hin, cd_true] at e
      obtain ⟨ho0, hz'⟩ := an_true hin
      have ho0 := beq_iff.1 ho0
      subst ho0
      have hz' : n * q.2.1 = z' := beq_iff.1 hz'
      unfold apOn at e
      replace e := cd_ok e
      obtain ⟨e5, e⟩ := e
      obtain ⟨e3, e4⟩ := an_true e5
      have := beq_iff.1 e3
      subst this
      rw [wrL_eq, sN_eq, sN_eq, Tr.set_put] at e
      obtain ⟨rfl, rfl⟩ := ok_inj e
      rw [len_eq]
      by_cases hfit : n + k ≤ c
      · -- there is room: the cells are laid behind
        have hle : (n + k) * q.2.1 ≤ c * q.2.1 := Nat.mul_le_mul_right _ hfit
        have hsum : (n + k) * q.2.1 = n * q.2.1 + k * q.2.1 := Nat.add_mul _ _ _
        obtain ⟨C', b1, b2, b3⟩ := heap_setCells B xs (n * q.2.1) w C q.1 f a1 (by omega)
        obtain ⟨k1, k2⟩ := h.turn (o' := .row q.1 (z' + l.length) (g + 1) fz (wrT l z' cs)) hob hlt (h.held hL) rfl (x := (B, 0, sz)) (.inl ⟨_, hL, rfl⟩) (w' := w.setCells B (n * q.2.1) xs) (below_setCells hB xs _ h.below)
          (RO.mkRow (Loc.put_self _ _ _ _) hB rfl b1 (by omega) (by omega) a4 a5 fun i v hi hv => by
            rw [wrT_get] at hv
            rw [b3]
            by_cases hw : z' ≤ i ∧ i < z' + l.length
            · rw [if_pos hw] at hv
              obtain ⟨u, c1, c2⟩ := g1.get hv
              exact ⟨u, by rw [if_pos (by omega), hz']; exact c1, c2.mono (Loc.le_put (h.top b _ _ hob (Nat.lt_succ_self _)) _)⟩
            · rw [if_neg hw] at hv
              obtain ⟨u, c1, c2⟩ := a6 i v (by omega) hv
              exact ⟨u, by rw [if_neg (by omega)]; rw [Nat.zero_add] at c1; exact c1, c2.mono (Loc.le_put (h.top b _ _ hob (Nat.lt_succ_self _)) _)⟩)
          (fun k hk _ => heap_setCells_ne B xs _ w k hk)
        refine ⟨_, _, _, k1, k2, ?_, app_room ht.ht ht.size ht.hz g3 (g4 w rfl) hfit (w' := w.setCells B (n * q.2.1) xs) ?_⟩
        · exact RV.sg (o := 0) (Loc.put_self L b (g + 1) (B, 0, sz)) hfit hroom
        · have := run_storeCells_cells (P := P) B (n * q.2.1) xs 0 w (fun j hj => by
            have : n * q.2.1 + j < C.size := by omega
            simp [World.cell?, a1, this]) (fun j hj => by
            simp only [World.frozen?, a1]
            have h2 : fz = 0 ∨ fz = 1 := by omega
            rcases h2 with h2 | h2
            · rw [a4 h2]; simp
            · have := a5 h2
              simp only [Bool.and_eq_false_iff, decide_eq_false_iff_not]
              omega) (g1.ones hc e4)
          simpa [add_own] using this
      · -- there is none: a new row
        have hC : ∀ W : World, W.heap = w.heap → (Builtin.firstCells q.2.1 n (.slice (some ⟨B, 0 + 0, none⟩) n c)).run P W = .ok (C.toList.take (n * q.2.1)).toArray W := fun W hW => by
          have hlen : (C.toList.take (n * q.2.1)).length = n * q.2.1 := by rw [List.length_take]; simp; omega
          have := run_loadCells_list (P := P) W ⟨B, 0 + 0, none⟩ (C.toList.take (n * q.2.1)) (fun j u hu => by
            rw [add_own]
            have hj := (List.getElem?_eq_some_iff.1 hu).1
            rw [List.getElem?_take, if_pos (by omega)] at hu
            simp only [World.cell?, hW, a1]
            simpa using hu)
          rw [hlen] at this
          exact this
        have hg := app_grow (ty := ty) (A := some ⟨B, 0 + 0, none⟩) ht.ht ht.hi ht.hw ht.hiz ht.hz g3 g4 hC (by omega) hb h63
        have hge := grownCap_ge w (n + k) c q.1
        generalize grownCap w (n + k) c q.1 = cap at hg hge
        have hlen0 : (C.toList.take (n * q.2.1)).length = n * q.2.1 := by rw [List.length_take]; simp; omega
        generalize hR : (C.toList.take (n * q.2.1) ++ (xs ++ (Builtin.zeroCells z.cells (cap - (n + k))).toList)) = R at hg
        have hRl : R.length = cap * q.2.1 := by
          rw [← hR, List.length_append, List.length_append, zeroCells_size, ht.hzs, ht.hw, hlen0, g2, ← Nat.add_mul, ← Nat.add_mul]
          congr 1
          omega
        have hle : (n + k) * q.2.1 ≤ cap * q.2.1 := Nat.mul_le_mul_right _ hge
        have hsum : (n + k) * q.2.1 = n * q.2.1 + k * q.2.1 := Nat.add_mul _ _ _
        obtain ⟨k1, k2⟩ := (h.drew (w.drawn + 1)).turn (o' := .row q.1 (z' + l.length) (g + 1) fz (wrT l z' cs)) hob hlt (h.held hL) rfl (x := (w.heap.size, 0, cap * q.2.1)) (.inr (Nat.le_refl _)) (w' := w.drew.alloc (.cells R.toArray q.1)) ((h.drew (w.drawn + 1)).below.alloc h.below.size _)
          (RO.mkRow (C := R.toArray) (fz := (0, 0)) (Loc.put_self _ _ _ _) h.below.size rfl (by show (w.heap.push _)[w.heap.size]? = _; simp) (by simp [hRl]) (by omega) (fun _ => rfl) (fun _ => .inr rfl) fun i v hi hv => by
            rw [wrT_get] at hv
            by_cases hw : z' ≤ i ∧ i < z' + l.length
            · rw [if_pos hw] at hv
              obtain ⟨u, c1, c2⟩ := g1.get hv
              refine ⟨u, ?_, c2.mono (Loc.le_put (h.top b _ _ hob (Nat.lt_succ_self _)) _)⟩
              rw [← hR, List.getElem?_toArray, List.getElem?_append_right (by omega), hlen0, hz', List.getElem?_append_left (by omega)]
              exact c1
            · rw [if_neg hw] at hv
              obtain ⟨u, c1, c2⟩ := a6 i v (by omega) hv
              refine ⟨u, ?_, c2.mono (Loc.le_put (h.top b _ _ hob (Nat.lt_succ_self _)) _)⟩
              rw [Nat.zero_add] at c1
              rw [← hR, List.getElem?_toArray, List.getElem?_append_left (by omega), List.getElem?_take, if_pos (by omega)]
              simpa using c1)
          (fun k hk hk' => Below.heap_alloc w.drew _ k hk')
        refine ⟨_, _, _, k1, k2, ?_, hg⟩
        show RV ρ (L.put b (g + 1) _) _ _
        have := RV.sg (ρ := ρ) (n := n + k) (w := q.2.1) (o := 0) (c := cap) (Loc.put_self L b (g + 1) (w.heap.size, 0, cap * q.2.1)) hge (by omega)
        simpa using this
    | false =>
      rw [hin, cd_false] at e
      unfold apMv at e
      replace e := cd_ok e
      obtain ⟨e5, e⟩ := e
      obtain ⟨ho0, e6⟩ := an_true e5
      obtain ⟨e3, e4⟩ := an_true e6
      have ho0 := beq_iff.1 ho0
      subst ho0
      have := beq_iff.1 e3
      subst this
      replace e := on_ok e
      obtain ⟨old, hold, e⟩ := e
      rw [sN_eq, Tr.set_put] at e
      obtain ⟨olds, k1, k2, k3⟩ := olds_spec (P := P) hc h (.own hL) (n := n) (wd := q.2.1) hold
      have hgone := h.gone (o' := .row q.1 0 (g + 1) 2 .lf) hob rfl
      by_cases hfit : n + k ≤ c
      · -- there is room
        unfold apNew at e
        rw [mk_eq] at e
        obtain ⟨rfl, rfl⟩ := ok_inj e
        have hle : (n + k) * q.2.1 ≤ c * q.2.1 := Nat.mul_le_mul_right _ hfit
        have hsum : (n + k) * q.2.1 = n * q.2.1 + k * q.2.1 := Nat.add_mul _ _ _
        obtain ⟨C', b1, b2, b3⟩ := heap_setCells B xs (n * q.2.1) w C q.1 f a1 (by omega)
        have hol := k1.length
        have hn0 : L s.nx 0 = none := h.fresh _ 0 (Nat.le_refl _)
        obtain ⟨m1, m2⟩ := (hgone.more (.row q.1 (old ++ l).length 0 fz (wrT (old ++ l) 0 .lf))).relay (b := s.nx) (o := .row q.1 (old ++ l).length 0 fz (wrT (old ++ l) 0 .lf)) (Tr.get_put_self _ _ _) (Nat.lt_succ_self _) h.free hn0 (x := (B, 0, sz))
          (fun b' u y hne hu hy q0 => by
            simp only at hu
            rw [Tr.get_put_ne _ _ hne, Tr.get_put] at hu
            by_cases hbb : b' = b
            · subst hbb
              rw [if_pos rfl] at hu
              injection hu with hu
              subst hu
              have := h.top b' _ (g + 1) hob (Nat.lt_succ_self _)
              have hy : L b' (g + 1) = some y := hy
              rw [this] at hy
              cases hy
            · rw [if_neg hbb] at hu
              exact h.inj b' b u _ y _ hbb hu hob hy hL q0)
          (w' := w.setCells B (n * q.2.1) xs) (below_setCells hB xs _ h.below)
          (RO.mkRow (Loc.put_self _ _ _ _) hB rfl b1 (by omega) (by rw [List.length_append]; omega) a4 a5 fun i v hi hv => by
            rw [wrT_get, if_pos (by omega), Nat.sub_zero] at hv
            rw [b3]
            by_cases hw : i < old.length
            · rw [List.getElem?_append_left hw] at hv
              obtain ⟨t2, z2, f2, cs2, d1, d2, d3⟩ := row_some (show row s b g 0 (n * q.2.1) none (fun c => rdN c (n * q.2.1) 0) = some old from hold)
              rw [hob] at d1
              injection d1 with d1
              injection d1 with d4 d5 d6 d7 d8
              subst d5 d8
              obtain ⟨d9, d10⟩ := rdN_spec d3
              obtain ⟨u, c1, c2⟩ := a6 i v (by omega) (by rw [← hv, ← d10 i (by omega), Nat.zero_add])
              rw [Nat.zero_add] at c1
              exact ⟨u, by rw [if_neg (by omega)]; exact c1, c2.mono (Loc.le_put hn0 _)⟩
            · rw [List.getElem?_append_right (by omega)] at hv
              obtain ⟨u, c1, c2⟩ := g1.get hv
              exact ⟨u, by rw [if_pos (by rw [List.length_append] at hi; omega), ← k2, ← hol]; exact c1, c2.mono (Loc.le_put hn0 _)⟩)
          (fun k hk _ => heap_setCells_ne B xs _ w k hk)
        refine ⟨_, _, _, m1, m2, ?_, app_room ht.ht ht.size ht.hz g3 (g4 w rfl) hfit (w' := w.setCells B (n * q.2.1) xs) ?_⟩
        · exact RV.sg (o := 0) (Loc.put_self L s.nx 0 (B, 0, sz)) hfit hroom
        · have := run_storeCells_cells (P := P) B (n * q.2.1) xs 0 w (fun j hj => by
            have : n * q.2.1 + j < C.size := by omega
            simp [World.cell?, a1, this]) (fun j hj => by
            simp only [World.frozen?, a1]
            have h2 : fz = 0 ∨ fz = 1 := by omega
            rcases h2 with h2 | h2
            · rw [a4 h2]; simp
            · have := a5 h2
              simp only [Bool.and_eq_false_iff, decide_eq_false_iff_not]
              omega) (g1.ones hc e4)
          simpa [add_own] using this
      · exact grow_end hc hgone ht.ht ht.hi ht.hw ht.hiz ht.hzs ht.hz g3 g4 (k3 c) (by omega) hb h63 k1 g1 k2 g2 e
end
theorem bounds {n k c : Nat} (h : Nat.blt 1000000 (Nat.mul (Nat.add n k) (Nat.succ c)) = false) : (n + k) * c ≤ 1000000 ∧ n + k ≤ 1000000000 := by
  have h1 : ¬ 1000000 < (n + k) * (c + 1) := fun hh => by
    have : Nat.blt 1000000 (Nat.mul (Nat.add n k) (Nat.succ c)) = true := Nat.blt_eq.mpr hh
    rw [h] at this
    cases this
  have h2 : (n + k) * (c + 1) = (n + k) * c + (n + k) := Nat.mul_succ _ _
  omega
theorem appV_spec (hc : Ctx P T ρ w0) (h : Rel ρ w0 L s w) {ts : List TypeId} {a x : V} {p y : Value} (ha : RV ρ L a p) (hx : RV ρ L x y) {ty : TypeId} (e : appV T s ts a x = .ok v s') : Blt P ρ w0 L v s' (Builtin.append_ ts.toArray ty #[p, y]) w := by
  unfold appV at e
  replace e := on_ok e
  obtain ⟨q, hq, e⟩ := e
  obtain ⟨t, rr, i, z, rfl, g1, g2, g3, g4, g5, g6, g7⟩ := apK_spec hc hq
  replace e := cd_ok e
  obtain ⟨hz, e⟩ := e
  obtain ⟨hz, hstr⟩ := an_true hz
  have hz := zK_spec hc hz
  have hstr : ∀ l, x = .str l → q.2.1 = 1 := by
    rintro l rfl
    exact beq_iff.1 hstr
  replace e := on_ok e
  obtain ⟨k, hk, e⟩ := e
  have hsize : ∀ w, (sizeOf q.1).run P w = .ok q.2.1 w := fun w => by simp [sizeOf, typeInfo, g2, g3]
  have hzero : ∀ {A : Option Addr} {n c : Nat}, p = .slice A n c → n ≤ c → k = 0 → v = a → s' = s → Blt P ρ w0 L v s' (Builtin.append_ (t :: rr).toArray ty #[p, y]) w := by
    rintro A n c rfl hnc rfl rfl rfl
    obtain ⟨l, xs, -, -, -, h4, h5⟩ : ∃ (l : List V) (xs : List Value), True ∧ True ∧ True ∧ (Builtin.lenOf y).run P w = .ok 0 w ∧ (Builtin.firstCells q.2.1 0 y).run P w = .ok #[] w := by
      refine ⟨[], [], trivial, trivial, trivial, ?_⟩
      unfold lenV at hk
      split at hk
      · rename_i l
        injection hk with hk
        cases hx with
        | str sb =>
          rw [len_eq] at hk
          have hs0 : sb.size = 0 := by simpa using hk
          exact ⟨by simp [Builtin.lenOf, hs0], by simp [Builtin.firstCells]⟩
      · rename_i A' n' c'
        injection hk with hk
        subst hk
        cases hx with
        | sl0 => exact ⟨rfl, rfl⟩
        | sl hA hn =>
          refine ⟨rfl, ?_⟩
          simp [Builtin.firstCells, loadCells, loadCellsFrom]
      · injection hk with hk
        subst hk
        cases hx with
        | sg hL hn hr =>
          refine ⟨rfl, ?_⟩
          simp [Builtin.firstCells, loadCells, loadCellsFrom]
      · cases hk
    exact ⟨_, w, L, L.le_refl, h, ha, app_none (k := 0) g1 hsize hz h4 h5 hnc⟩
  split at e
  · rename_i P0 n c
    cases hk0 : Nat.beq k 0 with
    | true =>
      rw [hk0, cd_true] at e
      obtain ⟨e1, e2⟩ := ok_inj e
      cases ha with
      | sl0 => exact hzero rfl (Nat.le_refl _) (beq_iff.1 hk0) e1.symm e2.symm
      | sl hA hn => exact hzero rfl hn (beq_iff.1 hk0) e1.symm e2.symm
    | false =>
      rw [hk0, cd_false, sN_eq] at e
      have hkpos : 0 < k := Nat.pos_of_ne_zero fun q0 => by rw [q0] at hk0; cases hk0
      replace e := cd_okN e
      obtain ⟨hbig, e⟩ := e
      obtain ⟨hb, h63⟩ := bounds hbig
      exact apSl_spec hc h ⟨g1, g2, g3, g4, g5, g6, g7, hz⟩ hx ha hk hkpos hstr (by rw [g4]; exact hb) h63 e
  · rename_i P0 n w'
    replace e := cd_ok e
    obtain ⟨e1, e⟩ := e
    have := beq_iff.1 e1
    subst this
    cases hk0 : Nat.beq k 0 with
    | true =>
      rw [hk0, cd_true] at e
      obtain ⟨e1, e2⟩ := ok_inj e
      cases ha with
      | sg hL hn hroom => exact hzero rfl hn (beq_iff.1 hk0) e1.symm e2.symm
    | false =>
      rw [hk0, cd_false, sN_eq] at e
      have hkpos : 0 < k := Nat.pos_of_ne_zero fun q0 => by rw [q0] at hk0; cases hk0
      replace e := cd_okN e
      obtain ⟨hbig, e⟩ := e
      obtain ⟨hb, h63⟩ := bounds hbig
      exact apSg_spec hc h ⟨g1, g2, g3, g4, g5, g6, g7, hz⟩ hx ha hk hkpos hstr (by rw [g4]; exact hb) h63 e
  · cases e
end
end Go.RI
namespace Go.RI
open Go Go.RowKit
section
variable {P : Program} {T : Tb} {ρ : Env} {w0 w : World} {L : Loc} {s s' : St} {m : Fm} {v : V} {r : Operand → Value} {o : Oper}
theorem Blt.pure (h : Rel ρ w0 L s w) {x : Value} (hv : RV ρ L v x) {q : Sem Value} (hq : q.run P w = .ok x w) : Blt P ρ w0 L v s q w := ⟨x, w, L, L.le_refl, h, hv, hq⟩
/-! copy -/
theorem newC_pre (hc : Ctx P T ρ w0) (h : Rel ρ w0 L s w) {wd : Nat} {x : V} {k : List V → Rv} {y : Value} (hx : RV ρ L x y) {n : Nat} (hn : lenV x = some n) (hstr : ∀ l, x = .str l → wd = 1) (e : newC T s wd x k = .ok v s') :
    ∃ l xs, k l = .ok v s' ∧ RVs ρ L l xs ∧ xs.length = n * wd ∧ (Builtin.lenOf y).run P w = .ok n w ∧ ∀ n', n' ≤ n → ∀ W : World, W.heap = w.heap → (Builtin.firstCells wd n' y).run P W = .ok (xs.take (n' * wd)).toArray W := by
  have key : ∀ {p : Pl} {a : Addr} {l : List V} {n c : Nat}, RA L p a → rd T s p (n * wd) = some l → ∃ xs, RVs ρ L l xs ∧ xs.length = n * wd ∧ ∀ n', n' ≤ n → ∀ W : World, W.heap = w.heap → (Builtin.firstCells wd n' (.slice (some a) n c)).run P W = .ok (xs.take (n' * wd)).toArray W := by
    intro p a l n c hA hl
    obtain ⟨xs, k1, k2, k3, k4⟩ := rd_spec hc h hA hl
    refine ⟨xs, k1, k2, fun n' hn' W hW => ?_⟩
    have hle : n' * wd ≤ n * wd := Nat.mul_le_mul_right _ hn'
    have := run_loadCells_list (P := P) W a (xs.take (n' * wd)) (fun j u hu => by
      rw [World.cell?_of_block (w := w) (by rw [hW])]
      have hj := (List.getElem?_eq_some_iff.1 hu).1
      rw [List.length_take] at hj
      rw [List.getElem?_take, if_pos (by omega)] at hu
      exact k4 j u hu)
    rw [List.length_take, Nat.min_eq_left (by omega)] at this
    exact this
  unfold newC at e
  split at e
  · rename_i l
    have := hstr l rfl
    subst this
    injection hn with hn
    subst hn
    cases hx with
    | str sb =>
      refine ⟨_, _, e, rvs_bytesV sb.data.toList, by rw [len_eq]; simp, ?_, fun n' hn' W hW => ?_⟩
      · rw [len_eq]; simp [Builtin.lenOf]
      · simp only [Builtin.firstCells, Sem.run_pure]
        congr 1
        apply Array.ext'
        simp [ByteArray.data_extract, List.map_take]
  · injection hn with hn
    subst hn
    cases hx
    exact ⟨[], [], e, .nil, by simp, rfl, fun n' hn' W hW => by simp; rfl⟩
  · rename_i p n' c
    injection hn with hn
    subst hn
    replace e := on_ok e
    obtain ⟨l, hl, e⟩ := e
    cases hx with
    | sl hA hnc =>
      obtain ⟨xs, k1, k2, k3⟩ := key hA hl
      exact ⟨l, xs, e, k1, k2, rfl, k3⟩
  · rename_i p n' w'
    injection hn with hn
    subst hn
    replace e := on_ok e
    obtain ⟨l, hl, e⟩ := e
    cases hx with
    | sg hL hnc hroom =>
      obtain ⟨xs, k1, k2, k3⟩ := key (.own hL) hl
      exact ⟨l, xs, e, k1, k2, rfl, k3⟩
  · cases e
theorem firstCells_zero (hc : Ctx P T ρ w0) {x : V} {y : Value} (hx : RV ρ L x y) {n : Nat} (hn : lenV x = some n) (wd : Nat) : (Builtin.lenOf y).run P w = .ok n w ∧ (Builtin.firstCells wd 0 y).run P w = .ok #[] w := by
  unfold lenV at hn
  split at hn
  · rename_i l
    injection hn with hn
    cases hx with
    | str sb =>
      subst hn
      rw [len_eq]
      exact ⟨by simp [Builtin.lenOf], by simp [Builtin.firstCells]⟩
  · injection hn with hn
    subst hn
    cases hx with
    | sl0 => exact ⟨rfl, rfl⟩
    | sl hA hn => exact ⟨rfl, by simp [Builtin.firstCells, loadCells, loadCellsFrom]⟩
  · injection hn with hn
    subst hn
    cases hx with
    | sg hL hn hr => exact ⟨rfl, by simp [Builtin.firstCells, loadCells, loadCellsFrom]⟩
  · cases hn
theorem cpyV_spec (hc : Ctx P T ρ w0) (h : Rel ρ w0 L s w) {ts : List TypeId} {a x : V} {p y : Value} (ha : RV ρ L a p) (hx : RV ρ L x y) {ty : TypeId} (e : cpyV T s ts a x = .ok v s') : Blt P ρ w0 L v s' (Builtin.copy_ ts.toArray ty #[p, y]) w := by
  unfold cpyV at e
  replace e := on_ok e
  obtain ⟨q, hq, e⟩ := e
  obtain ⟨t, rr, i, z, rfl, g1, g2, g3, g4, g5, g6, g7⟩ := apK_spec hc hq
  replace e := cd_ok e
  obtain ⟨hstr, e⟩ := e
  have hstr : ∀ l, x = .str l → q.2.1 = 1 := by
    rintro l rfl
    exact beq_iff.1 hstr
  replace e := on_ok e
  obtain ⟨na, hna, e⟩ := e
  replace e := on_ok e
  obtain ⟨k, hk, e⟩ := e
  rw [sN_eq] at e
  have hmin : cd (Nat.ble k na) k na = Nat.min k na := by
    cases hb : Nat.ble k na with
    | true => exact (Nat.min_eq_left (Nat.le_of_ble_eq_true hb)).symm
    | false =>
      have hlt : ¬ k ≤ na := fun hh => by
        have := Nat.ble_eq_true_of_le hh
        rw [hb] at this
        cases this
      show na = Nat.min k na
      exact (Nat.min_eq_right (by omega)).symm
  rw [hmin] at e
  have hsize : ∀ w, (sizeOf q.1).run P w = .ok q.2.1 w := fun w => by simp [sizeOf, typeInfo, g2, g3]
  have fin : ∀ {pl : Pl} {A : Addr} {c : Nat}, RA L pl A → p = .slice (some A) na c → (newC T s q.2.1 x fun l => tk (Nat.mul (Nat.min k na) q.2.1) l fun l => match wr s pl l with
        | .ok _ s => .ok (.int .i64 (.ofNat (Nat.min k na))) s
        | .no => .no) = .ok v s' → Blt P ρ w0 L v s' (Builtin.copy_ (t :: rr).toArray ty #[p, y]) w := by
    rintro pl A c hA rfl e
    replace e := newC_pre hc h hx hk hstr e
    obtain ⟨l, xs, e, k1, k2, k3, k4⟩ := e
    rw [tk_eq] at e
    cases hwr : wr s pl (l.take (Nat.mul (Nat.min k na) q.2.1)) with
    | no => rw [hwr] at e; cases e
    | ok u s1 =>
      rw [hwr] at e
      obtain ⟨rfl, rfl⟩ := ok_inj e
      obtain ⟨-, w', f1, f2⟩ := wr_spec hc (P := P) h hA (k1.take _) hwr
      refine ⟨_, w', L, L.le_refl, f2, .int .i64 _, ?_⟩
      have f1 : (storeCells A (xs.take (Nat.min k na * q.2.1))).run P w = .ok () w' := f1
      have k4 := k4 (Nat.min k na) (Nat.min_le_left _ _) w rfl
      simp only [Builtin.copy_, List.getElem?_toArray, List.getElem?_cons_zero, List.getElem?_cons_succ, Sem.run_bind, run_underlying g1, Result.andThen_ok, k3, hsize, k4, f1, Sem.run_pure]
      rfl
  unfold lenV at hna
  split at e
  · rename_i n c
    injection hna with hna
    obtain ⟨rfl, rfl⟩ := ok_inj e
    cases ha with
    | sl0 =>
      subst hna
      obtain ⟨f1, f2⟩ := firstCells_zero (P := P) (w := w) hc hx hk q.2.1
      have hm : Nat.min k 0 = 0 := Nat.min_zero k
      refine .pure h (.int .i64 _) ?_
      rw [hm]
      simp only [Builtin.copy_, List.getElem?_toArray, List.getElem?_cons_zero, List.getElem?_cons_succ, Sem.run_bind, run_underlying g1, Result.andThen_ok, f1, hsize, hm, f2, Sem.run_pure]
      rfl
  · rename_i pl n c
    injection hna with hna
    subst hna
    cases ha with
    | sl hA hn => exact fin hA rfl e
  · rename_i pl n c
    injection hna with hna
    subst hna
    cases ha with
    | sg hL hn hr => exact fin (.own hL) rfl e
  · cases e
/-! len, cap -/
theorem onStr_or {x : V} {a : Rv} {k : List Nat → Rv} (h : onStr x a k = .ok v s) : (∃ l, x = .str l ∧ k l = .ok v s) ∨ a = .ok v s := by
  cases x <;> first | exact .inl ⟨_, rfl, h⟩ | exact .inr h
theorem onSl_or {x : V} {a : Rv} {k : Pl → Nat → Rv} (h : onSl x a k = .ok v s) : (∃ p n, ((∃ c, x = .sl (some p) n c) ∨ ∃ w, x = .sg p n w) ∧ k p n = .ok v s) ∨ a = .ok v s := by
  cases x with
  | sl p n c =>
    cases p with
    | none => exact .inr h
    | some p => exact .inl ⟨p, n, .inl ⟨c, rfl⟩, h⟩
  | sg p n w => exact .inl ⟨p, n, .inr ⟨w, rfl⟩, h⟩
  | _ => exact .inr h
theorem onSlice_ok {d : TypeDesc} {k : TypeId → Rv} (h : onSlice d .no k = .ok v s) : ∃ e, d = .slice e ∧ k e = .ok v s := by
  cases d <;> first | exact ⟨_, rfl, h⟩ | cases h
theorem lnV_spec (hc : Ctx P T ρ w0) (h : Rel ρ w0 L s w) {ts : List TypeId} {x : V} {y : Value} (hx : RV ρ L x y) {ty : TypeId} (e : lnV T s ts x = .ok v s') : Blt P ρ w0 L v s' (Builtin.len_ ts.toArray ty #[y]) w := by
  unfold lnV at e
  replace e := onStr_or e
  rcases e with ⟨l, rfl, e⟩ | e
  · split at e
    · rename_i hu0
      obtain ⟨t, q, rfl, hu⟩ := und1_spec hc hu0
      rw [sN_eq] at e
      obtain ⟨rfl, rfl⟩ := ok_inj e
      cases hx with
      | str sb =>
        refine .pure h (.int .i64 _) ?_
        rw [len_eq]
        simp [Builtin.len_, run_underlying hu, goInt]
    · cases e
  · replace e := on_ok e
    obtain ⟨d, hu0, e⟩ := e
    obtain ⟨t, q, rfl, hu⟩ := und1_spec hc hu0
    replace e := onSl_or e
    rcases e with ⟨p, n, hq, e⟩ | e
    · replace e := onSlice_ok e
      obtain ⟨el, rfl, e⟩ := e
      obtain ⟨rfl, rfl⟩ := ok_inj e
      rcases hq with ⟨c, rfl⟩ | ⟨w', rfl⟩
      · cases hx with
        | sl hA hn => exact .pure h (.int .i64 _) (by simp [Builtin.len_, run_underlying hu, goInt])
      · cases hx with
        | sg hL hn hr => exact .pure h (.int .i64 _) (by simp [Builtin.len_, run_underlying hu, goInt])
    · unfold lnO at e
      split at e
      · obtain ⟨rfl, rfl⟩ := ok_inj e
        exact .pure h (.int .i64 _) (by simp [Builtin.len_, run_underlying hu, goInt])
      · split at e
        · rename_i hu2
          obtain ⟨rfl, rfl⟩ := ok_inj e
          exact .pure h (.int .i64 _) (by simp [Builtin.len_, run_underlying hu, run_underlying (und_spec hc hu2), goInt])
        · cases e
      · obtain ⟨rfl, rfl⟩ := ok_inj e
        cases hx
        exact .pure h (.int .i64 _) (by simp [Builtin.len_, run_underlying hu, goInt])
      · obtain ⟨rfl, rfl⟩ := ok_inj e
        cases hx
        exact .pure h (.int .i64 0) (by simp [Builtin.len_, run_underlying hu, goInt])
      · replace e := on_ok e
        obtain ⟨l, hl, e⟩ := e
        rw [sN_eq] at e
        obtain ⟨rfl, rfl⟩ := ok_inj e
        cases hx with
        | mp hL =>
          obtain ⟨-, -, es, k2, k3⟩ := mapE_spec h hl hL
          have hlen : len l.1 = es.size := by
            rw [len_eq]
            have : ∀ {a : List Me} {b : List MapEntry}, RMs ρ L a b → a.length = b.length := fun h => by
              induction h with
              | nil => rfl
              | cons _ _ _ _ ih => simp [ih]
            simpa using this k3
          refine .pure h (.int .i64 _) ?_
          rw [hlen]
          simp [Builtin.len_, run_underlying hu, goInt, run_getObj_map k2]
      · obtain ⟨rfl, rfl⟩ := ok_inj e
        cases hx
        exact .pure h (.int .i64 0) (by simp [Builtin.len_, run_underlying hu, goInt])
      · split at e
        · rename_i hg
          rw [sN_eq] at e
          obtain ⟨rfl, rfl⟩ := ok_inj e
          cases hx with
          | ch hL =>
            obtain ⟨-, -, buf, k2, k3⟩ := h.obj _ _ hg _ _ _ hL
            have hlen := k3.length
            refine .pure h (.int .i64 _) ?_
            rw [len_eq, hlen]
            simp [Builtin.len_, run_underlying hu, goInt, getObj, Sem.run, k2]
        · cases e
      · cases e
end
end Go.RI
namespace Go.RI
open Go Go.RowKit
section
variable {P : Program} {T : Tb} {ρ : Env} {w0 w : World} {L : Loc} {s s' : St} {m : Fm} {v : V} {r : Operand → Value} {o : Oper}
/-! min, max -/
theorem mm_spec (mx : Bool) : ∀ {l : List V} {xs : List Value} {x : V} {y : Value}, RVs ρ L l xs → RV ρ L x y → mmG mx s x l = .ok v s' → s' = s ∧ ∃ u, RV ρ L v u ∧ (xs.foldlM (cd mx Builtin.max2 Builtin.min2) y).run P w = .ok u w
  | [], _, x, y, .nil, hx, e => by
    unfold mmG at e
    split at e
    · obtain ⟨rfl, rfl⟩ := ok_inj e
      exact ⟨rfl, _, hx, rfl⟩
    · cases e
  | z :: l, _, x, y, .cons hz hl, hx, e => by
    unfold mmG at e
    split at e
    · rename_i k a k' b
      cases hx
      cases hz
      rw [iLt_eq, iLt_eq] at e
      cases mx with
      | true =>
        rw [cd_true] at e
        by_cases c : a < b
        · simp only [c, decide_true, cd_true] at e
          obtain ⟨h1, u, h2, h3⟩ := mm_spec true hl (.int k b) e
          refine ⟨h1, u, h2, ?_⟩
          rw [cd_true] at h3 ⊢
          simpa [List.foldlM_cons, Builtin.max2, c] using h3
        · simp only [c, decide_false, cd_false] at e
          obtain ⟨h1, u, h2, h3⟩ := mm_spec true hl (.int k a) e
          refine ⟨h1, u, h2, ?_⟩
          rw [cd_true] at h3 ⊢
          simpa [List.foldlM_cons, Builtin.max2, c] using h3
      | false =>
        rw [cd_false] at e
        by_cases c : b < a
        · simp only [c, decide_true, cd_true] at e
          obtain ⟨h1, u, h2, h3⟩ := mm_spec false hl (.int k b) e
          refine ⟨h1, u, h2, ?_⟩
          rw [cd_false] at h3 ⊢
          simpa [List.foldlM_cons, Builtin.min2, c] using h3
        · simp only [c, decide_false, cd_false] at e
          obtain ⟨h1, u, h2, h3⟩ := mm_spec false hl (.int k a) e
          refine ⟨h1, u, h2, ?_⟩
          rw [cd_false] at h3 ⊢
          simpa [List.foldlM_cons, Builtin.min2, c] using h3
    · cases e
/-! a thing written anew, at its place -/
theorem Rel.putObj (h : Rel ρ w0 L s w) {b : Nat} {o o' : Ob} (hb : s.h.get b = some o) (hg : o'.g = o.g) {B base sz : Nat} (hL : L b o.g = some (B, base, sz)) {c : Obj} (ho : RO ρ L w0.heap.size { w with heap := w.heap.setIfInBounds B c } b o') : Rel ρ w0 L ⟨s.h.put b o', s.nx⟩ { w with heap := w.heap.setIfInBounds B c } := by
  have hB := ((h.obj b o hb).lt hL).2
  refine h.set hb hg ⟨h.below.os, h.below.tape, h.below.output, by simpa using h.below.size, fun k hk => ?_⟩ ho (fun k hk _ => ?_)
  · show (w.heap.setIfInBounds B _)[k]? = _
    rw [Array.getElem?_setIfInBounds_ne (by omega)]
    exact h.below.block k hk
  · show (w.heap.setIfInBounds B _)[k]? = _
    rw [Array.getElem?_setIfInBounds_ne (fun q => hk _ hL q.symm)]
theorem del_spec (hc : Ctx P T ρ w0) (h : Rel ρ w0 L s w) {t kt et : TypeId} {q : List TypeId} {b : Nat} {k : V} {xs : List Value} {ty : TypeId} (hu : P.underlying t = some (.map kt et)) (hl : RVs ρ L [.mp (some b), k] xs) (e : cd (keyOk T 4 kt k) (on (mapE s b) .no fun q => on (find T kt k q.1 0) .no fun j => on j (putM s b q.1 q.2 (.tup [])) fun j => putM s b (q.1.eraseIdx j) q.2 (.tup [])) .no = .ok v s') : Blt P ρ w0 L v s' (Builtin.delete_ (t :: q).toArray ty xs.toArray) w := by
  cases hl with
  | cons hm hl => cases hl with
    | cons hk hl =>
      cases hl
      replace e := cd_ok e
      obtain ⟨hko, e⟩ := e
      obtain ⟨d, hd⟩ := keyOk_und hc hko
      replace e := on_ok e
      obtain ⟨l, hle, e⟩ := e
      replace e := on_ok e
      obtain ⟨j, hj, e⟩ := e
      cases hm with
      | mp hL =>
        obtain ⟨k0, k1, es, k2, k3⟩ := mapE_spec h hle hL
        obtain ⟨res, g1, g2, g3⟩ := findKey_run (w := w) hc hk hd hj k3
        have hck := fun em => keyOk_spec (w := w) hc (em := em) 4 kt k _ hko hk 10000 (by omega)
        cases j with
        | none =>
          obtain ⟨rfl, rfl⟩ := putM_ok (show putM s b _ _ _ = _ from e)
          have := g2 rfl
          subst this
          refine ⟨_, _, L, L.le_refl, h.putMap k0 hL k3, .tup .nil, ?_⟩
          simp only [Builtin.delete_, List.getElem?_toArray, List.getElem?_cons_zero, List.getElem?_cons_succ, Sem.run_bind, run_underlying hu, Result.andThen_ok, run_getObj_map k2, hck, g1, run_setObj_map k2]
          rfl
        | some j =>
          obtain ⟨rfl, rfl⟩ := putM_ok (show putM s b _ _ _ = _ from e)
          obtain ⟨en, xe, f1, f2, rfl, -⟩ := g3 j rfl
          refine ⟨_, _, L, L.le_refl, h.putMap (l' := l.1.eraseIdx j) (es := es.eraseIdxIfInBounds j) k0 hL (by rw [Array.toList_eraseIdxIfInBounds]; exact k3.erase j), .tup .nil, ?_⟩
          simp only [Builtin.delete_, List.getElem?_toArray, List.getElem?_cons_zero, List.getElem?_cons_succ, Sem.run_bind, run_underlying hu, Result.andThen_ok, run_getObj_map k2, hck, g1, run_setObj_map k2]
          rfl
theorem bytesV_map : ∀ (ns : List Nat), bytesV ns = ns.map fun n => V.int .u8 (.ofNat n)
  | [] => rfl
  | n :: r => by
    show V.int .u8 (.ofNat n) :: bytesV r = _
    rw [bytesV_map r]
    rfl
theorem usS_spec (hc : Ctx P T ρ w0) (h : Rel ρ w0 L s w) {ts : List TypeId} {p : Pl} {a : Addr} {n : Nat} {ty : TypeId} (ha : RA L p a) (hn : n ≠ 0) (e : usS T s ts p n = .ok v s') : Blt P ρ w0 L v s' (Builtin.unsafeString_ ts.toArray ty #[.pointer (some a), .int .i64 n]) w := by
  unfold usS at e
  replace e := onOwn_ok e
  obtain ⟨b, g, o, rfl, e⟩ := e
  replace e := on_ok e
  obtain ⟨ob, hob, e⟩ := e
  replace e := onRow_ok e
  obtain ⟨t, z, g', fz, cs, rfl, e⟩ := e
  replace e := cd_ok e
  obtain ⟨q0, e⟩ := e
  obtain ⟨q1, q2⟩ := an_true q0
  obtain ⟨q3, q4⟩ := an_true q2
  obtain ⟨q5, q6⟩ := an_true q3
  obtain ⟨q7, q8⟩ := an_true q4
  have := beq_iff.1 q5
  subst this
  have := beq_iff.1 q6
  subst this
  have hnz : n ≤ z := Nat.le_of_ble_eq_true q7
  have hn6 : n ≤ 1000000 := Nat.le_of_ble_eq_true q8
  replace e := on_ok e
  obtain ⟨l, hl, e⟩ := e
  replace e := strV_ok e
  obtain ⟨ns, e, hns, hlt⟩ := e
  rw [Tr.set_put] at e
  obtain ⟨rfl, rfl⟩ := ok_inj e
  obtain ⟨d1, d2⟩ := rdN_spec hl
  unfold usK at q1
  split at q1
  · rename_i pt it
    split at q1
    · rename_i el hu
      obtain ⟨r1, r2⟩ := an_true q1
      have := beq_iff.1 r1
      subst this
      split at r2
      · rename_i n1 hsz
        have := beq_iff.1 r2
        subst this
        obtain ⟨i, hi, hi1⟩ := siz_spec hc hsz
        have hcell : P.cellsOf el = 1 := by simp [Program.cellsOf, hi, hi1]
        cases ha with
        | @own _ _ _ B base sz hL =>
          obtain ⟨hB, hb0, C, f, a1, a2, a3, a4, a5, a6⟩ := h.row hob hL
          subst hb0
          have hlen : ns.length = n := by rw [← d1, hns, bytesV_map]; simp
          have hrun := Lib.run_unsafeString_row (P := P) (w := w) pt it ty el (und_spec hc hu) hcell B sz (by simp [World.shape?, a1, a2]) (ns.map UInt8.ofNat) (by
            intro hh
            have := congrArg List.length hh
            rw [List.length_map, hlen] at this
            exact hn this) (by simp; omega) (by simp; omega) (fun j x hx => by
              have hj := (List.getElem?_eq_some_iff.1 hx).1
              simp only [List.length_map] at hj
              obtain ⟨u, k1, k2⟩ := a6 j (.int .u8 (.ofNat ns[j])) (by omega) (by
                have := d2 j (by omega)
                rw [Nat.zero_add] at this
                rw [this, hns, bytesV_map, List.getElem?_map, List.getElem?_eq_getElem (by omega)]
                rfl)
              rw [Nat.zero_add] at k1
              rw [add_own]
              cases k2
              have hx : UInt8.ofNat ns[j] = x := by
                rw [List.getElem?_map, List.getElem?_eq_getElem hj] at hx
                injection hx
              rw [← hx]
              have hb8 : (UInt8.ofNat ns[j]).toNat = ns[j] := by
                have := hlt ns[j] (List.getElem_mem hj)
                simp
                omega
              rw [hb8, Nat.zero_add]
              exact cell_of a1 k1)
          rw [List.length_map, hlen] at hrun
          refine ⟨.string ⟨(ns.map UInt8.ofNat).toArray⟩, w.freeze ⟨B, 0, none⟩ n, L, L.le_refl, ?_, ?_, hrun⟩
          · have hfr : w.freeze ⟨B, 0, none⟩ n = { w with heap := w.heap.setIfInBounds B (.cells C el (if f.1 == f.2 then (0, 0 + n) else (min f.1 0, max f.2 (0 + n)))) } := by
              unfold World.freeze
              rw [if_neg hn]
              congr 1
              apply Array.ext_getElem?
              intro k
              have hlt := (Array.getElem?_eq_some_iff.1 a1).1
              rw [Array.getElem?_modify, Array.getElem?_setIfInBounds]
              by_cases c : B = k
              · subst c
                rw [if_pos rfl, if_pos rfl, if_pos hlt, a1]
                rfl
              · rw [if_neg c, if_neg c]
            rw [hfr]
            exact h.putObj (o' := .row el z g 2 cs) hob rfl hL (RO.mkRow hL hB rfl (by
              have hlt := (Array.getElem?_eq_some_iff.1 a1).1
              show (w.heap.setIfInBounds B _)[B]? = _
              rw [Array.getElem?_setIfInBounds, if_pos rfl, if_pos hlt]) a2 (by omega) (fun q => by cases q) (fun q => by cases q) (fun i v hi hv => by
                have := a6 i v hi hv
                rw [Nat.zero_add] at this
                exact this))
          · have := RV.str (ρ := ρ) (L := L) ⟨(ns.map UInt8.ofNat).toArray⟩
            have hh : (ns.map UInt8.ofNat).map UInt8.toNat = ns := by
              rw [List.map_map]
              conv => rhs; rw [← List.map_id ns]
              apply List.map_congr_left
              intro k hk
              have := hlt k hk
              simp
              omega
            simpa [hh] using this
      · cases r2
    · cases q1
  · cases q1
end
end Go.RI
namespace Go.RI
open Go Go.RowKit
section
variable {P : Program} {T : Tb} {ρ : Env} {w0 w : World} {L : Loc} {s s' : St} {m : Fm} {v : V} {r : Operand → Value} {o : Oper}
theorem ol_ok {l : List V} {k : V → List V → Rv} (h : ol l .no k = .ok v s) : ∃ a q, l = a :: q ∧ k a q = .ok v s := by
  cases l with
  | nil => cases h
  | cons a q => exact ⟨a, q, rfl, h⟩
theorem olN_ok {l : List Nat} {k : Nat → List Nat → Rv} (h : ol l .no k = .ok v s) : ∃ a q, l = a :: q ∧ k a q = .ok v s := by
  cases l with
  | nil => cases h
  | cons a q => exact ⟨a, q, rfl, h⟩
/-- Of a built-in function: what it gives. -/
def BltN (P : Program) (ρ : Env) (w0 : World) (L : Loc) (v : V) (s' : St) (q : Sem Next) (w : World) : Prop := ∃ x w' L', L.le L' ∧ Rel ρ w0 L' s' w' ∧ RV ρ L' v x ∧ q.run P w = .ok (Next.value x) w'
theorem Blt.next {q : Sem Value} (h : Blt P ρ w0 L v s' q w) : BltN P ρ w0 L v s' (do Pure.pure (Next.value (← q))) w := by
  obtain ⟨x, w', L', h1, h2, h3, h4⟩ := h
  exact ⟨x, w', L', h1, h2, h3, by simp [h4]⟩
theorem bltO_spec (hc : Ctx P T ρ w0) (h : Rel ρ w0 L s w) {b : Builtin} {ts : List TypeId} {l : List V} {xs : List Value} (hl : RVs ρ L l xs) {ty : TypeId} {consts : Array Bool} (e : bltO T b ts l s = .ok v s') : BltN P ρ w0 L v s' (builtin b ts.toArray ty consts xs.toArray) w := by
  unfold bltO at e
  split at e
  · -- copy
    cases hl with
    | cons h1 hl => cases hl with
      | cons h2 hl =>
        cases hl
        exact (cpyV_spec hc h h1 h2 (ty := ty) e).next
  · -- cap
    cases hl with
    | cons h1 hl =>
      cases hl
      split at e
      · rename_i hu
        obtain ⟨t, q, rfl, hu'⟩ := und1_spec hc hu
        obtain ⟨rfl, rfl⟩ := ok_inj e
        have fin : ∀ (A : Option Addr) (n c : Nat), (Builtin.cap_ (t :: q).toArray ty #[.slice A n c]).run P w = .ok (.int .i64 (Int.ofNat c)) w := fun A n c => by simp [Builtin.cap_, run_underlying hu', goInt]
        cases h1 with
        | sl0 => exact (Blt.pure h (.int .i64 _) (fin _ _ _)).next
        | sl hA hn => exact (Blt.pure h (.int .i64 _) (fin _ _ _)).next
      · cases e
  · -- delete
    split at e
    · rename_i hu
      obtain ⟨t, q, rfl, hu'⟩ := und1_spec hc hu
      exact (del_spec hc h hu' hl (ty := ty) e).next
    · cases e
  · -- unsafe.SliceData
    obtain ⟨rfl, rfl⟩ := ok_inj e
    cases hl with
    | cons h1 hl =>
      cases hl
      cases h1
      exact (Blt.pure h .ptr0 (q := Builtin.unsafeSliceData_ ts.toArray ty #[.slice none 0 0]) rfl).next
  · rename_i p n c
    replace e := cd_okN e
    obtain ⟨hz, e⟩ := e
    obtain ⟨rfl, rfl⟩ := ok_inj e
    cases hl with
    | cons h1 hl =>
      cases hl
      cases h1 with
      | @sl _ a _ _ hA hn =>
        have hcz : c ≠ 0 := fun q => by rw [q] at hz; cases hz
        exact (Blt.pure h (.ptr hA) (q := Builtin.unsafeSliceData_ ts.toArray ty #[.slice (some a) n c]) (by
          show Sem.run P (if c ≠ 0 then pure (Value.pointer (some a)) else _) w = _
          rw [if_pos hcz]
          rfl)).next
  · rename_i p n wd
    replace e := cd_okN e
    obtain ⟨hz, e⟩ := e
    obtain ⟨rfl, rfl⟩ := ok_inj e
    cases hl with
    | cons h1 hl =>
      cases hl
      cases h1 with
      | @sg b g o _ _ B base sz c hL hn hr =>
        have hcz : c ≠ 0 := fun q => by
          have : n = 0 := by omega
          rw [this] at hz
          cases hz
        exact (Blt.pure h (.ptr (.own hL)) (q := Builtin.unsafeSliceData_ ts.toArray ty #[.slice (some ⟨B, base + o, none⟩) n c]) (by
          show Sem.run P (if c ≠ 0 then pure (Value.pointer (some ⟨B, base + o, none⟩)) else _) w = _
          rw [if_pos hcz]
          rfl)).next
  · -- unsafe.String
    rename_i p n
    replace e := olN_ok e
    obtain ⟨t, q, rfl, e⟩ := e
    cases hl with
    | cons h1 hl => cases hl with
      | cons h2 hl =>
        cases hl
        cases h2
        have hbig : ¬ (9223372036854775807 : Int) < (0 : Int) := by omega
        cases hz : Nat.beq n 0 with
        | true =>
          rw [hz, cd_true] at e
          obtain ⟨rfl, rfl⟩ := ok_inj e
          have := beq_iff.1 hz
          subst this
          have fin : ∀ A : Option Addr, (Builtin.unsafeString_ (t :: q).toArray ty #[.pointer A, .int .i64 (Int.ofNat 0)]).run P w = .ok (.string .empty) w := fun A => by
            cases A <;> rfl
          have hs : RV ρ L (.str []) (.string .empty) := .str .empty
          cases h1 with
          | ptr0 => exact (Blt.pure h hs (fin _)).next
          | ptr hA => exact (Blt.pure h hs (fin _)).next
        | false =>
          rw [hz, cd_false] at e
          replace e := on_ok e
          obtain ⟨pl, rfl, e⟩ := e
          cases h1 with
          | ptr hA => exact (usS_spec hc h hA (fun q => by rw [q] at hz; cases hz) (ty := ty) e).next
  · -- min
    rename_i l'
    unfold mmV at e
    replace e := ol_ok e
    obtain ⟨x, q, rfl, e⟩ := e
    cases hl with
    | @cons _ xa _ xr h1 hl =>
      obtain ⟨rfl, u, h2, h3⟩ := mm_spec (P := P) (w := w) false hl h1 e
      exact (Blt.pure h h2 (q := Builtin.min_ ts.toArray ty (xa :: xr).toArray) h3).next
  · -- max
    rename_i l'
    unfold mmV at e
    replace e := ol_ok e
    obtain ⟨x, q, rfl, e⟩ := e
    cases hl with
    | @cons _ xa _ xr h1 hl =>
      obtain ⟨rfl, u, h2, h3⟩ := mm_spec (P := P) (w := w) true hl h1 e
      exact (Blt.pure h h2 (q := Builtin.max_ ts.toArray ty (xa :: xr).toArray) h3).next
  · -- close
    split at e
    · rename_i nn ll aa bb hg
      rw [Tr.set_put] at e
      obtain ⟨rfl, rfl⟩ := ok_inj e
      cases hl with
      | cons h1 hl =>
        cases hl
        cases h1 with
        | @ch r R hL =>
          obtain ⟨hB, -, buf, k2, k3⟩ := h.obj _ _ hg _ _ _ hL
          have hlt := (Array.getElem?_eq_some_iff.1 k2).1
          refine Blt.next (q := Builtin.close_ ts.toArray ty #[.chan (some R)]) ⟨_, _, L, L.le_refl, h.putObj (o' := .chan nn ll true aa bb) (c := .chan nn buf true aa bb false) hg rfl hL ?_, .tup .nil, ?_⟩
          · intro B' base' sz' e'
            have e' : L _ 0 = some (B', base', sz') := e'
            rw [hL] at e'
            injection e' with e'
            injection e' with e1 e2
            injection e2 with e2 e3
            subst e1 e2 e3
            exact ⟨hB, rfl, buf, by show (w.heap.setIfInBounds R _)[R]? = _; simp [hlt], k3⟩
          · have hdef : Builtin.close_ ts.toArray ty #[.chan (some R)] = (getObj R >>= fun ob => match ob with
              | .chan room buf closed sent received timer => do
                if closed then runtimePanic (.plain "close of closed channel")
                setObj R (.chan room buf true sent received timer)
                Pure.pure (.tuple #[])
              | _ => stuck "close: no channel in this block") := rfl
            rw [hdef]
            simp [getObj, setObj, Sem.run, k2]
    · cases e
  · cases e
theorem bltn_spec (hc : Ctx P T ρ w0) (h : Rel ρ w0 L s w) {b : Builtin} {ts : List TypeId} {l : List V} {xs : List Value} (hl : RVs ρ L l xs) {ty : TypeId} {consts : Array Bool} (e : bltn T b ts l s = .ok v s') : BltN P ρ w0 L v s' (builtin b ts.toArray ty consts xs.toArray) w := by
  unfold bltn at e
  cases hb : Nat.beq (bk b) 0 with
  | true =>
    rw [hb, cd_true] at e
    exact bltO_spec hc h hl e
  | false =>
    rw [hb, cd_false] at e
    replace e := ol_ok e
    obtain ⟨a, q, rfl, e⟩ := e
    cases hl with
    | cons h1 hl =>
      cases hb1 : Nat.beq (bk b) 1 with
      | true =>
        rw [hb1, cd_true] at e
        replace e := ol_ok e
        obtain ⟨x, q', rfl, e⟩ := e
        cases hl with
        | cons h2 hl =>
          cases q' with
          | cons _ _ => cases e
          | nil =>
            have hbb : b = .append := by cases b <;> first | rfl | (cases hb1; done)
            subst hbb
            cases hl
            exact (appV_spec hc h h1 h2 (ty := ty) e).next
      | false =>
        rw [hb1, cd_false] at e
        have hbb : b = .len := by cases b <;> first | rfl | (cases hb; done) | (cases hb1; done)
        subst hbb
        cases q with
        | cons _ _ => cases e
        | nil =>
          cases hl
          exact (lnV_spec hc h h1 (ty := ty) e).next
end
end Go.RI
namespace Go.RI
open Go Go.RowKit
/-! outcomes -/
/-- At every end. -/
def Oc.all {α : Type} : Oc α → (α → Prop) → Prop
  | .no, _ => False
  | .one a, p => p a
  | .two x y, p => x.all p ∧ y.all p
theorem Oc.all_mono {α : Type} {p q : α → Prop} (h : ∀ a, p a → q a) : ∀ {o : Oc α}, o.all p → o.all q
  | .no, hh => hh
  | .one a, hh => h a hh
  | .two x y, hh => ⟨Oc.all_mono h hh.1, Oc.all_mono h hh.2⟩
theorem Oc.all_bnd {α β : Type} {p : β → Prop} {k : α → Oc β} : ∀ {o : Oc α}, (o.bnd k).all p → o.all fun a => (k a).all p
  | .no, h => h
  | .one a, h => h
  | .two x y, h => ⟨Oc.all_bnd (show (x.bnd k).all p from h.1), Oc.all_bnd (show (y.bnd k).all p from h.2)⟩
theorem on_all {α β : Type} {o : Option α} {k : α → Oc β} {p : β → Prop} (h : (on o .no k).all p) : ∃ a, o = some a ∧ (k a).all p := by
  cases o with
  | none => exact h.elim
  | some a => exact ⟨a, rfl, h⟩
theorem cd_all {β : Type} {c : Bool} {x : Oc β} {p : β → Prop} (h : (cd c x .no).all p) : c = true ∧ x.all p := by
  cases c with
  | false => exact h.elim
  | true => exact ⟨rfl, h⟩
section
variable {P : Program} {T : Tb} {ρ : Env} {w0 w : World} {L L' : Loc} {s s' : St} {m : Fm} {v : V} {a : Act} {N : Nat}
/-! frames -/
/-- What has been put off. -/
def RD (P : Program) (ρ : Env) (L : Loc) (d : Df) (D : Deferred) : Prop := ∃ xs, RVs ρ L d.l xs ∧ (∃ fv cap, D.target = .fn fv cap) ∧ ∀ W : World, (invoke D.target D.args).run P W = (callFunc d.f xs.toArray).run P W
inductive RDs (P : Program) (ρ : Env) (L : Loc) : List Df → List Deferred → Prop
  | nil : RDs P ρ L [] []
  | cons {d : Df} {D : Deferred} {l : List Df} {r : List Deferred} : RD P ρ L d D → RDs P ρ L l r → RDs P ρ L (d :: l) (D :: r)
theorem RD.mono (hl : L.le L') {d : Df} {D : Deferred} (h : RD P ρ L d D) : RD P ρ L' d D := let ⟨xs, h1, h2⟩ := h; ⟨xs, h1.mono hl, h2⟩
theorem RDs.mono (hl : L.le L') : ∀ {l : List Df} {r : List Deferred}, RDs P ρ L l r → RDs P ρ L' l r
  | _, _, .nil => .nil
  | _, _, .cons h k => .cons (h.mono hl) (RDs.mono hl k)
/-- A frame, of which the slots S are known. -/
structure RFmS (P : Program) (ρ : Env) (S : Nat → Prop) (L : Loc) (N : Nat) (m : Fm) (a : Act) : Prop where
  size : a.tmps.size = N
  tmp : ∀ i v, S i → m.t.get i = some v → ∃ x, a.tmps[i]? = some x ∧ RV ρ L v x
  dfs : RDs P ρ L m.d a.defers
/-- A frame, of which all slots are known. -/
abbrev RFm (P : Program) (ρ : Env) (L : Loc) (N : Nat) (m : Fm) (a : Act) : Prop := RFmS P ρ (fun _ => True) L N m a
section
variable {S S' : Nat → Prop}
theorem RFmS.mono (hl : L.le L') (h : RFmS P ρ S L N m a) : RFmS P ρ S L' N m a := ⟨h.size, fun i v hs hv => let ⟨x, h1, h2⟩ := h.tmp i v hs hv; ⟨x, h1, h2.mono hl⟩, h.dfs.mono hl⟩
theorem RFmS.weaken (hs : ∀ t, S' t → S t) (h : RFmS P ρ S L N m a) : RFmS P ρ S' L N m a := ⟨h.size, fun i v hi hv => h.tmp i v (hs i hi) hv, h.dfs⟩
theorem RFmS.put (h : RFmS P ρ S L N m a) {d : Nat} (hd : d < N) {x : Value} (hx : RV ρ L v x) (hs : ∀ t, S' t → S t ∨ d = t) : RFmS P ρ S' L N ⟨m.t.put d v, m.d⟩ (a.put (some d) x) := by
  refine ⟨by simp [Act.put, h.size], fun i u hi hu => ?_, h.dfs⟩
  simp only [Tr.get_put] at hu
  by_cases c : i = d
  · subst c
    rw [if_pos rfl] at hu
    injection hu with hu
    subst hu
    exact ⟨x, by simp [Act.put, h.size, hd], hx⟩
  · rw [if_neg c] at hu
    obtain ⟨y, h1, h2⟩ := h.tmp i u ((hs i hi).resolve_right fun q => c q.symm) hu
    exact ⟨y, by simp only [Act.put]; rw [Array.getElem?_setIfInBounds_ne (fun q => c q.symm)]; exact h1, h2⟩
end
theorem ev_tmp (m : Fm) (t : Nat) : ev m (.tmp t) = m.t.get t := rfl
theorem RFmS.opd {S : Nat → Prop} (h : RFmS P ρ S L N m a) (xs : Array Operand) (hS : ∀ t, Operand.tmp t ∈ xs → S t) : Opd ρ L m a.eval xs := by
  intro x hx u hu
  cases x with
  | tmp t =>
    obtain ⟨y, h1, h2⟩ := h.tmp t u (hS t hx) hu
    have : a.eval (.tmp t) = y := by simp [Act.eval, Array.getD_eq_getD_getElem?, h1]
    rw [this]
    exact h2
  | const z => exact toV_spec (show toV 4 z = some u from hu)
  | global g =>
    have hu : some (V.ptr (some (.var g 0))) = some u := hu
    injection hu with hu
    subst hu
    exact .ptr (.var g 0)
  | func f =>
    have hu : some (V.fn (.func f) [] []) = some u := hu
    injection hu with hu
    subst hu
    exact .fn .nil .nil
/-! one operation of a region -/
/-- One operation's steps. -/
def Goes1 (P : Program) (ops : Array Oper) (i : Nat) (K : Act → World → Prop) (a : Act) (w : World) : Prop := ∀ (b : Frame) (rest : List Nat) (k : List Item) (cs : List Frame), ∃ a' w', K a' w' ∧ Steps P (lone (b.at a (.inRegion ops (i :: rest) :: k)) cs w) (lone (b.at a' (.inRegion ops rest :: k)) cs w')
theorem Goes1.mono {ops : Array Oper} {i : Nat} {K K' : Act → World → Prop} (h : Goes1 P ops i K a w) (hk : ∀ a w, K a w → K' a w) : Goes1 P ops i K' a w := fun b rest k cs => let ⟨a', w', h1, h2⟩ := h b rest k cs; ⟨a', w', hk _ _ h1, h2⟩
section
variable {ops : Array Oper} {i : Nat} {o : Oper} {K : Act → World → Prop}
theorem goes_value (ho : ops[i]? = some o) (hw : Region.wanted o (yielded ops a.tmps) = true) {x : Value} {w' : World} (hr : (execOp a.eval o).run P w = .ok (.value x) w') (hk : K (a.put o.dst x) w') : Goes1 P ops i K a w := by
  intro b rest k cs
  have hg := stepG_op (P := P) (b := b) (k := k) (cs := cs) (w := w) (rest := rest) ho hw
  have hfin : ∀ v, (b.at a (.inRegion ops (i :: rest) :: k)).finish v = b.at (a.put o.dst v) (.inRegion ops rest :: k) := by
    intro v; rw [Frame.finish_at, ho]; rfl
  refine ⟨_, _, hk, .one (step_lone_go ?_)⟩
  rw [hg, ← hfin]; simp [stepG.apply, hr]
theorem goes_skip (ho : ops[i]? = some o) (hw : Region.wanted o (yielded ops a.tmps) = true) {w' : World} (hr : (execOp a.eval o).run P w = .ok .skip w') (hk : K (a.put o.dst undef) w') : Goes1 P ops i K a w := by
  intro b rest k cs
  have hg := stepG_op (P := P) (b := b) (k := k) (cs := cs) (w := w) (rest := rest) ho hw
  have hfin : ∀ v, (b.at a (.inRegion ops (i :: rest) :: k)).finish v = b.at (a.put o.dst v) (.inRegion ops rest :: k) := by
    intro v; rw [Frame.finish_at, ho]; rfl
  refine ⟨_, _, hk, .one (step_lone_go ?_)⟩
  rw [hg, ← hfin]; simp [stepG.apply, hr]
theorem goes_unwanted (ho : ops[i]? = some o) (hw : Region.wanted o (yielded ops a.tmps) = false) (hk : K (a.put o.dst undef) w) : Goes1 P ops i K a w := by
  intro b rest k cs
  have hs := step_op_skip (P := P) (b := b) (a := a) (k := k) (cs := cs) (w := w) (ops := ops) (i := i) (rest := rest) (by simp [ho, hw])
  simp only [ho, Option.bind_some] at hs
  exact ⟨_, _, hk, .one hs⟩
theorem goes_defer (ho : ops[i]? = some o) (hw : Region.wanted o (yielded ops a.tmps) = true) {d : Deferred} {w' : World} (hr : (execOp a.eval o).run P w = .ok (.defer d) w') (hk : K ({ a with defers := d :: a.defers }.put o.dst undef) w') : Goes1 P ops i K a w := by
  intro b rest k cs
  have hg := stepG_op (P := P) (b := b) (k := k) (cs := cs) (w := w) (rest := rest) ho hw
  refine ⟨_, _, hk, .one (step_lone_go ?_)⟩
  have : ({ b.at a (.inRegion ops (i :: rest) :: k) with defers := d :: a.defers } : Frame).finish undef = b.at ({ a with defers := d :: a.defers }.put o.dst undef) (.inRegion ops rest :: k) := by
    have := Frame.finish_at b { a with defers := d :: a.defers } ops i rest k undef
    rw [ho] at this; exact this
  rw [hg]; simp only [stepG.apply, Sem.runT_eq, hr, GStep.bare_after]
  exact congrArg (fun fr => GStep.go { frame := fr, callers := cs, status := .running, dying := none } w') this
theorem goes_enter (ho : ops[i]? = some o) (hw : Region.wanted o (yielded ops a.tmps) = true) {f : FuncId} {xs : Array Value} {w' : World} (hr : (execOp a.eval o).run P w = .ok (.enter f xs) w') (hk : Calls P f xs w' fun e w'' => ∃ x, e = .returned x ∧ K (a.put o.dst x) w'') : Goes1 P ops i K a w := by
  intro b rest k cs
  have hg := stepG_op (P := P) (b := b) (k := k) (cs := cs) (w := w) (rest := rest) ho hw
  have hfin : ∀ v, (b.at a (.inRegion ops (i :: rest) :: k)).finish v = b.at (a.put o.dst v) (.inRegion ops rest :: k) := by
    intro v; rw [Frame.finish_at, ho]; rfl
  obtain ⟨e, w'', fr, ⟨x, rfl, hR⟩, hsteps, _, hleave⟩ := hk (b.at a (.inRegion ops (i :: rest) :: k) :: cs)
  have henter : step P (lone (b.at a (.inRegion ops (i :: rest) :: k)) cs w) = .next (lone (Frame.enter P f xs .normal) (b.at a (.inRegion ops (i :: rest) :: k) :: cs) w') :=
    step_lone_go (by rw [hg]; simp [stepG.apply, hr, Frame.at])
  refine ⟨_, _, hR, .head henter (Steps.trans hsteps (.one ?_))⟩
  rw [← hfin]; exact step_leave_returned hleave
end
/-- A list of operations' steps. -/
def Reg (P : Program) (ops : Array Oper) (l : List Nat) (K : Act → World → Prop) (a : Act) (w : World) : Prop := ∀ (b : Frame) (k : List Item) (cs : List Frame), ∃ a' w', K a' w' ∧ Steps P (lone (b.at a (.inRegion ops l :: k)) cs w) (lone (b.at a' k) cs w')
theorem reg_nil {ops : Array Oper} {K : Act → World → Prop} (h : K a w) : Reg P ops [] K a w := fun b k cs => ⟨a, w, h, .one step_region_end⟩
theorem reg_cons {ops : Array Oper} {i : Nat} {l : List Nat} {K : Act → World → Prop} (h : Goes1 P ops i (Reg P ops l K) a w) : Reg P ops (i :: l) K a w := fun b k cs => by
  obtain ⟨a1, w1, h1, h2⟩ := h b l k cs
  obtain ⟨a2, w2, h3, h4⟩ := h1 b k cs
  exact ⟨a2, w2, h3, Steps.trans h2 h4⟩
theorem wp_reg {id : Nat} {ops : Array Oper} {Q : Exit → Act → World → Prop} (h : Reg P ops (List.range ops.size) (Q .normal) a w) : (Code.region id ops false).wp P Q a w := fun b k cs => by
  obtain ⟨a', w', h1, h2⟩ := h b k cs
  exact ⟨.normal, a', w', h1, .of_steps (.one step_region) h2⟩
end
end Go.RI
namespace Go.RI
open Go Go.RowKit
section
variable {P : Program} {T : Tb} {ρ : Env} {w0 w : World} {L L' : Loc} {s s' : St} {m : Fm} {v : V} {a : Act} {N : Nat} {r : Operand → Value}
/-! what is called -/
theorem mth_spec {n : String} : ∀ {l : List Method} {x : Method}, mth l n = some x → l.find? (·.name == n) = some x
  | [], _, h => by cases h
  | y :: l, x, h => by
    unfold mth at h
    split at h
    · rename_i hy
      injection h with h
      subst h
      simp only [List.find?_cons, hy]
    · rename_i hy
      simp only [List.find?_cons, hy]
      exact mth_spec h
theorem mtK_spec (hc : Ctx P T ρ w0) {t : TypeId} {n : String} {f : FuncId} (h : mtK T t n = some f) (x : Value) (W : World) : (method (P.types.size + Made.depth) t x n).run P W = .ok (f, x) W := by
  unfold mtK at h
  split at h
  · rename_i i d hi hu
    have hp := und_spec hc hu
    have hin := hc.ty _ _ hi
    split at h
    · rename_i nm sg p f' pr hm
      have hf := mth_spec hm
      have hf2 : i.methods.find? (·.name == n) = some ⟨nm, sg, p, some (f', pr)⟩ := by rw [← Array.find?_toList]; exact hf
      have hps : p = #[] := by
        apply Array.eq_empty_of_size_eq_zero
        cases hz : p.size with
        | zero => rfl
        | succ k => rw [hz] at h; simp at h
      subst hps
      obtain ⟨k, hk⟩ : ∃ k, P.types.size + Made.depth = k + 1 := ⟨P.types.size + (Made.depth - 1), by
        have : 0 < Made.depth := by decide
        omega⟩
      rw [hk]
      have key : ∀ {y : Value}, (∀ wr, (receiverAt t (.val x) pr wr).run P W = .ok y W) → y = x → (method (k + 1) t x n).run P W = .ok (f', x) W := by
        rintro y hy rfl
        simp [method, typeInfo, hin, hf2, follow, hy]
      cases pr with
      | true =>
        cases d <;> simp at h
        subst h
        exact key (y := x) (fun wr => by simp [receiverAt, run_underlying hp, Place.get]) rfl
      | false =>
        have hne : ∀ e, d ≠ .pointer e := by
          rintro e rfl
          simp at h
        have hff : f' = f := by
          cases d <;> simp at h <;> first | exact h | exact (absurd rfl (hne _))
        subst hff
        refine key (y := x) (fun wr => ?_) rfl
        unfold receiverAt
        simp only [Sem.run_bind, run_underlying hp, Result.andThen_ok]
        cases d <;> first | (exact absurd rfl (hne _)) | simp [Place.get]
    · cases h
  · cases h
theorem onFn_or {β : Type} (v : V) (bad : β) (k : Fn → List V → List V → β) : onFn v bad k = bad ∨ ∃ g a b, v = .fn g a b ∧ onFn v bad k = k g a b := by
  cases v <;> first | exact .inl rfl | exact .inr ⟨_, _, _, rfl, rfl⟩
theorem onIfc_or {β : Type} (v : V) (bad : β) (k : TypeId → V → β) : onIfc v bad k = bad ∨ ∃ t u, v = .ifc t u ∧ onIfc v bad k = k t u := by
  cases v <;> first | exact .inl rfl | exact .inr ⟨_, _, rfl, rfl⟩
/-- The places where a target may lead. -/
theorem tgt_spec {β : Type} (hc : Ctx P T ρ w0) {c : Call} {ty : TypeId} (hr : Opd ρ L m r c.operands) (bad : β) (kf : FuncId → List V → β) (kb : Builtin → List TypeId → List V → β) (W : World) :
    tgt T m c bad kf kb = bad ∨
    (∃ f l xs D, tgt T m c bad kf kb = kf f l ∧ RVs ρ L l xs ∧ (resolve r c ty).run P W = .ok D W ∧ (∃ fv cap, D.target = .fn fv cap) ∧ ∀ W' : World, (invoke D.target D.args).run P W' = (callFunc f xs.toArray).run P W') ∨
    (∃ b l xs D consts, tgt T m c bad kf kb = kb b c.argTypes.toList l ∧ RVs ρ L l xs ∧ (resolve r c ty).run P W = .ok D W ∧ ∀ W' : World, (invoke D.target D.args).run P W' = (builtin b c.argTypes ty consts xs.toArray).run P W') := by
  have hargs : ∀ {vs : List V}, evs m c.args.toList = some vs → RVs ρ L vs (c.args.map r).toList := fun {vs} h => by
    have := evs_spec h (r := r) (ρ := ρ) (L := L) fun x hx u hu => hr x (by
      unfold Call.operands
      simp only [Array.mem_append]
      exact .inr (by simpa using hx)) u hu
    simpa using this
  unfold tgt
  cases hev : evs m c.args.toList with
  | none => exact .inl rfl
  | some vs =>
    have hvs := hargs hev
    obtain ⟨callee, args, ats⟩ := c
    cases callee with
    | builtin b =>
      refine .inr (.inr ⟨b, vs, _, { target := .builtin b ats ty (args.map fun | .const _ => true | _ => false), args := args.map r }, (args.map fun | .const _ => true | _ => false), rfl, hvs, rfl, fun W' => ?_⟩)
      simp only [invoke, Array.toArray_toList]
    | value f =>
      cases hf : ev m f with
      | none => exact .inl (by show on (ev m f) bad _ = bad; rw [hf]; rfl)
      | some v =>
        have hfv := hr f (by simp [Call.operands]) v hf
        have e0 : ∀ k : V → β, on (ev m f) bad k = k v := fun k => by rw [hf]; rfl
        rcases onFn_or v bad (fun g a b => match g with
          | .func f => kf f (a ++ (vs ++ b))
          | _ => bad) with hb | ⟨g, x, y, rfl, hb⟩
        · exact .inl ((e0 _).trans hb)
        · cases g with
          | func g =>
            generalize hx : r f = z at hfv
            cases hfv with
            | @fn _ _ _ X Y h1 h2 =>
              refine .inr (.inl ⟨g, x ++ (vs ++ y), X ++ ((args.map r).toList ++ Y), { target := .fn (.func g) Y.toArray, args := X.toArray ++ args.map r }, (e0 _).trans hb, h1.append (hvs.append h2), ?_, ⟨_, _, rfl⟩, fun W' => ?_⟩)
              · simp [resolve, hx, Deferred.ofValue]
              · simp only [invoke]
                congr 2
                apply Array.ext'
                simp
          | _ => exact .inl ((e0 _).trans hb)
    | invoke q n =>
      cases hf : ev m q with
      | none => exact .inl (by show on (ev m q) bad _ = bad; rw [hf]; rfl)
      | some v =>
        have hfv := hr q (by simp [Call.operands]) v hf
        have e0 : ∀ k : V → β, on (ev m q) bad k = k v := fun k => by rw [hf]; rfl
        rcases onIfc_or v bad (fun t v => on (mtK T t n) bad fun f => kf f (v :: vs)) with hb | ⟨t, u, rfl, hb⟩
        · exact .inl ((e0 _).trans hb)
        · cases hm : mtK T t n with
          | none => exact .inl ((e0 _).trans (hb.trans (by rw [hm]; rfl)))
          | some g =>
            generalize hx : r q = z at hfv
            cases hfv with
            | @ifc _ _ X h1 =>
              refine .inr (.inl ⟨g, u :: vs, X :: (args.map r).toList, { target := .fn (.method n) #[], args := #[.iface t X] ++ args.map r }, (e0 _).trans (hb.trans (by rw [hm]; rfl)), .cons h1 hvs, ?_, ⟨_, _, rfl⟩, fun W' => ?_⟩)
              · simp [resolve, hx]
              · have hk := mtK_spec hc hm X W'
                have h0 : (#[Value.iface t X] ++ args.map r)[0]? = some (.iface t X) := by rw [Array.getElem?_append_left (by simp)]; rfl
                have h1 : (#[Value.iface t X] ++ args.map r).extract 1 (#[Value.iface t X] ++ args.map r).size = args.map r := by
                  apply Array.ext'
                  rw [Array.toList_extract, List.extract_eq_take_drop]
                  have hsz : (#[Value.iface t X] ++ args.map r).size - 1 = (args.map r).toList.length := by simp
                  have htl : (#[Value.iface t X] ++ args.map r).toList = Value.iface t X :: (args.map r).toList := by simp
                  rw [hsz, htl, List.drop_succ_cons, List.drop_zero, List.take_length]
                have h2 : #[X] ++ args.map r = (X :: (args.map r).toList).toArray := by
                  apply Array.ext'
                  simp
                simp only [invoke, h0, h1, callMethod, Sem.run_bind, run_program, Result.andThen_ok, hk, h2]
end
end Go.RI
namespace Go.RI
open Go Go.RowKit
section
variable {P : Program} {T : Tb} {ρ : Env} {w0 w : World} {L L' : Loc} {s s' : St} {m : Fm} {v : V} {a : Act} {N : Nat} {cal : FuncId → List V → St → Oc Rr}
/-! calls -/
/-- A call from within: it enters a function, or it is answered at once. -/
def CallF (P : Program) (f : FuncId) (xs : Array Value) (w : World) (K : Value → World → Prop) : Prop :=
  (∃ g w1, (callFunc f xs).run P w = .ok (.enter g xs) w1 ∧ Calls P g xs w1 fun e w2 => ∃ x, e = .returned x ∧ K x w2) ∨ (∃ x w1, (callFunc f xs).run P w = .ok (.value x) w1 ∧ K x w1)
theorem CallF.mono {f : FuncId} {xs : Array Value} {K K' : Value → World → Prop} (h : CallF P f xs w K) (hk : ∀ x w, K x w → K' x w) : CallF P f xs w K' := by
  rcases h with ⟨g, w1, h1, h2⟩ | ⟨x, w1, h1, h2⟩
  · exact .inl ⟨g, w1, h1, h2.mono fun e w2 ⟨x, h3, h4⟩ => ⟨x, h3, hk _ _ h4⟩⟩
  · exact .inr ⟨x, w1, h1, hk _ _ h2⟩
/-- What is asked of calls. -/
def SpecF (P : Program) (ρ : Env) (w0 : World) (cal : FuncId → List V → St → Oc Rr) : Prop :=
  ∀ (f : FuncId) (l : List V) (s : St) (L : Loc) (xs : List Value) (w : World) (K : Value → World → Prop), Rel ρ w0 L s w → RVs ρ L l xs → (cal f l s).all (fun r => ∀ L' x w', L.le L' → Rel ρ w0 L' r.s w' → RV ρ L' r.v x → K x w') → CallF P f xs.toArray w K
/-- What is asked of code behind it. -/
def Post (P : Program) (ρ : Env) (w0 : World) (L : Loc) (N : Nat) (S : Nat → Prop) (K : Act → World → Prop) (q : R) : Prop := ∀ L' a' w', L.le L' → Rel ρ w0 L' q.s w' → RFmS P ρ S L' N q.m a' → K a' w'
theorem putD_post {S S' : Nat → Prop} {o : Oper} {K : Act → World → Prop} (e : (putD o v s m).all (Post P ρ w0 L N S' K)) (hS' : ∀ t, S' t → S t ∨ o.dst = some t) (hd : ∀ d, o.dst = some d → d < N) (hl : L.le L') (h : Rel ρ w0 L' s w) {x : Value} (hv : RV ρ L' v x) (hm : RFmS P ρ S L' N m a) : K (a.put o.dst x) w := by
  unfold putD at e
  cases hdst : o.dst with
  | none =>
    rw [hdst] at e
    exact (show Post P ρ w0 L N S' K ⟨.nrm, s, m⟩ from e) L' a w hl h (hm.weaken fun t ht => (hS' t ht).resolve_right fun q => by rw [hdst] at q; cases q)
  | some d =>
    rw [hdst] at e
    have e : (m.t.set d v fun t => Oc.one (⟨.nrm, s, ⟨t, m.d⟩⟩ : R)).all (Post P ρ w0 L N S' K) := e
    rw [Tr.set_put] at e
    exact (show Post P ρ w0 L N S' K ⟨.nrm, s, ⟨m.t.put d v, m.d⟩⟩ from e) L' _ w hl h (hm.put (hd d hdst) hv fun t ht => (hS' t ht).imp id fun q => by rw [hdst] at q; injection q)
theorem fin_all {o : Oper} {x : Rv} {p : R → Prop} (e : (fin o m x).all p) : ∃ v s', x = .ok v s' ∧ (putD o v s' m).all p := by
  cases x with
  | no => exact e.elim
  | ok v s' => exact ⟨v, s', rfl, e⟩
/-- The guard, as it is known. -/
theorem want_spec {S : Nat → Prop} (hm : RFmS P ρ S L N m a) {ops : Array Oper} {o : Oper} {q : Nat × Bool} {b : Bool} (hg : o.guard = some q) (hS : ∀ oj t, ops[q.1]? = some oj → oj.dst = some t → S t) (h : want ops.toList m q = some b) : Region.wanted o (yielded ops a.tmps) = b := by
  unfold want at h
  replace h := on_some h
  obtain ⟨oj, hj, h⟩ := h
  replace h := on_some h
  obtain ⟨t, ht, h⟩ := h
  replace h := on_some h
  obtain ⟨u, hu, h⟩ := h
  rw [nth_eq] at hj
  obtain ⟨x, h1, h2⟩ := hm.tmp t u (hS oj t (by simpa using hj) ht) hu
  obtain ⟨j, want⟩ := q
  have hy : yielded ops a.tmps j = match x with | .bool b => some b | _ => none := by
    unfold yielded
    have : ops[j]? = some oj := by simpa using hj
    rw [this]
    simp only [Option.bind_some, ht, h1]
    cases x <;> rfl
  unfold Region.wanted
  simp only [hg, hy]
  split at h
  · injection h with h
    subst h
    cases h2
    rename_i c
    cases want <;> cases c <;> rfl
  · injection h with h
    subst h
    cases h2 with
    | tup h2 => rfl
  · cases h
end
end Go.RI
namespace Go.RI
open Go Go.RowKit
section
variable {P : Program} {T : Tb} {ρ : Env} {w0 w : World} {L L' : Loc} {s s' : St} {m : Fm} {v : V} {a : Act} {N : Nat}
theorem alts_all {k : Me → Oc R} {p : R → Prop} : ∀ {x : List Me}, (alts k x).all p → ∀ e ∈ x, (k e).all p
  | [], h, e, he => by cases he
  | [y], h, e, he => by
    rcases List.mem_cons.1 he with rfl | he
    · exact h
    · cases he
  | y :: z :: r, h, e, he => by
    have h : (Oc.two (k y) (alts k (z :: r))).all p := h
    rcases List.mem_cons.1 he with rfl | he
    · exact h.1
    · exact alts_all h.2 e he
theorem left_mem {seen : List Nat} : ∀ {x : List Me} {e : Me}, e ∈ x → (∀ n ∈ seen, e.b ≠ n) → e ∈ left seen x
  | y :: r, e, he, hs => by
    unfold left
    rcases List.mem_cons.1 he with rfl | he
    · have : seen.any (Nat.beq e.b) = false := by
        rw [List.any_eq_false]
        intro n hn q
        exact hs n hn (Nat.eq_of_beq_eq_true q)
      rw [this]
      exact List.mem_cons_self
    · cases seen.any (Nat.beq y.b) with
      | true => exact left_mem he hs
      | false => exact List.mem_cons_of_mem _ (left_mem he hs)
theorem left_of {seen : List Nat} : ∀ {x : List Me} {e : Me}, e ∈ left seen x → e ∈ x ∧ ∀ n ∈ seen, e.b ≠ n
  | y :: r, e, he => by
    unfold left at he
    cases hs : seen.any (Nat.beq y.b) with
    | true =>
      rw [hs] at he
      have := left_of (show e ∈ left seen r from he)
      exact ⟨List.mem_cons_of_mem _ this.1, this.2⟩
    | false =>
      rw [hs] at he
      rcases List.mem_cons.1 (show e ∈ y :: left seen r from he) with rfl | he
      · refine ⟨List.mem_cons_self, fun n hn q => ?_⟩
        rw [List.any_eq_false] at hs
        exact hs n hn (by rw [q]; exact Nat.beq_refl _)
      · have := left_of he
        exact ⟨List.mem_cons_of_mem _ this.1, this.2⟩
theorem RMs.mem : ∀ {l : List Me} {x : List MapEntry}, RMs ρ L l x → ∀ e ∈ x, ∃ u ∈ l, RV ρ L u.k e.key ∧ RV ρ L u.v e.val ∧ u.b = e.born
  | _, _, .nil, e, he => by cases he
  | _, _, .cons h1 h2 h3 h4, e, he => by
    rcases List.mem_cons.1 he with rfl | he
    · exact ⟨_, List.mem_cons_self, h1, h2, h3⟩
    · obtain ⟨u, g1, g2⟩ := RMs.mem h4 e he
      exact ⟨u, List.mem_cons_of_mem _ g1, g2⟩
theorem RMs.mem' : ∀ {l : List Me} {x : List MapEntry}, RMs ρ L l x → ∀ u ∈ l, ∃ e ∈ x, u.b = e.born
  | _, _, .nil, e, he => by cases he
  | _, _, .cons h1 h2 h3 h4, e, he => by
    rcases List.mem_cons.1 he with rfl | he
    · exact ⟨_, List.mem_cons_self, h3⟩
    · obtain ⟨u, g1, g2⟩ := RMs.mem' h4 e he
      exact ⟨u, List.mem_cons_of_mem _ g1, g2⟩
theorem nxt_spec {S S' : Nat → Prop} {ops : Array Oper} {i : Nat} {o : Oper} {it : Operand} {str : Bool} (hS' : ∀ t, S' t → S t ∨ o.dst = some t) (hop : o.op = .next it str) (hoi : ops[i]? = some o) (hw : Region.wanted o (yielded ops a.tmps) = true) (hd : ∀ d, o.dst = some d → d < N) (h : Rel ρ w0 L s w) (hm : RFmS P ρ S L N m a) {K : Act → World → Prop} {b : Nat} {A : Addr} (hA : RA L (.own b 0 0) A) (hit : a.eval it = .pointer (some A))
    (e : (nxt o str b s m).all (Post P ρ w0 L N S' K)) : Goes1 P ops i K a w := by
  have hex : ∀ {q : Sem Value} {x : Value} {w' : World}, Instr.next (.pointer (some A)) str o.type = q → q.run P w = .ok x w' → (execOp a.eval o).run P w = .ok (.value x) w' := by
    rintro q x w' rfl hq
    unfold execOp
    simp only [hop, hit, Sem.run_bind, hq, Result.andThen_ok, Sem.run_pure]
  cases hA with
  | @own _ _ _ B base sz hL =>
    unfold nxt at e
    split at e
    · -- a text
      rename_i l p hb
      obtain ⟨hB, h0, sb, h1, h2⟩ := h.obj b _ hb B base sz hL
      subst h0
      replace e := cd_all e
      obtain ⟨rfl, e⟩ := e
      have hlen : len l = sb.size := by rw [len_eq, h2]; simp
      cases hlt : Nat.blt p (len l) with
      | true =>
        rw [hlt, cd_true] at e
        replace e := on_all e
        obtain ⟨c, hcc, e⟩ := e
        replace e := cd_all e
        obtain ⟨hc128, e⟩ := e
        rw [sN_eq, Tr.set_put] at e
        have hp : p < sb.size := by rw [← hlen]; exact Nat.blt_eq.mp hlt
        have hcv : c = (sb[p]'hp).toNat := by
          rw [nth_eq, h2, List.getElem?_map] at hcc
          have hp' : p < sb.data.toList.length := by simpa using hp
          rw [List.getElem?_eq_getElem hp'] at hcc
          injection hcc with hcc
          rw [← hcc]
          rfl
        have hrun  := Lib.run_next_ascii_at (P := P) w B sb p o.type h1 hp (by rw [← hcv]; exact Nat.blt_eq.mp hc128)
        rw [← hcv] at hrun
        refine goes_value hoi hw (hex rfl hrun) (putD_post e hS' hd L.le_refl (h.putObj (o' := .si l (p + 1)) (c := .stringIter sb (p + 1)) hb rfl hL ?_) (.tup (.cons (.bool true) (.cons (.int .i64 _) (.cons (.int .i32 _) .nil)))) hm)
        intro B' base' sz' e'
        have e' : L b 0 = some (B', base', sz') := e'
        rw [hL] at e'
        injection e' with e'
        injection e' with e1 e2
        injection e2 with e2 e3
        subst e1 e2 e3
        have hltB := (Array.getElem?_eq_some_iff.1 h1).1
        exact ⟨hB, rfl, sb, by show (w.heap.setIfInBounds B _)[B]? = _; simp [hltB], h2⟩
      | false =>
        rw [hlt, cd_false] at e
        have hp : ¬ p < sb.size := fun q => by
          rw [← hlen] at q
          have := Nat.blt_eq.mpr q
          rw [hlt] at this
          cases this
        exact goes_value hoi hw (hex rfl (Lib.run_next_end_at (P := P) w B sb p o.type h1 hp)) (putD_post e hS' hd L.le_refl h (.tup (.cons (.bool false) .nil)) hm)
    · -- no map
      rename_i since seen last hb
      obtain ⟨hB, h0, m', h1, h2⟩ := h.obj b _ hb B base sz hL
      subst h0
      cases str with
      | true => exact e.elim
      | false =>
        cases h2
        refine goes_value hoi hw (hex rfl ?_) (putD_post e hS' hd L.le_refl h (.tup (.cons (.bool false) .nil)) hm)
        simp [Instr.next, getObj, Sem.run, h1]
    · -- a map
      rename_i r since seen last hb
      obtain ⟨hB, h0, m', h1, h2⟩ := h.obj b _ hb B base sz hL
      subst h0
      replace e := on_all e
      obtain ⟨q, hq, e⟩ := e
      replace e := cd_all e
      obtain ⟨hck, e⟩ := e
      obtain ⟨hs, hck⟩ := an_true hck
      obtain ⟨hsl, hall⟩ := an_true hck
      cases str with
      | true => cases hs
      | false =>
        cases h2 with
        | @some _ R hR =>
          obtain ⟨-, hB', es, k2, k3⟩ := mapE_spec h hq hR
          have hold : ∀ x ∈ es.toList, x.born < since := fun x hx => by
            obtain ⟨u, g1, -, -, g4⟩ := k3.mem x hx
            rw [List.all_eq_true] at hall
            have := Nat.blt_eq.mp (hall u g1)
            omega
          rcases run_next_at (P := P) w o.type B R since last seen.toArray es q.2 h1 k2 hold (Nat.le_of_ble_eq_true hsl) with ⟨g1, g2⟩ | ⟨en, g1, w1, g2, g3⟩
          · have hnil : left seen q.1 = [] := by
              cases hlf : left seen q.1 with
              | nil => rfl
              | cons u x =>
                obtain ⟨f1, f2⟩ := left_of (show u ∈ left seen q.1 by rw [hlf]; exact List.mem_cons_self)
                obtain ⟨en, f3, f4⟩ := k3.mem' u f1
                have : en ∈ (leftOf es seen.toArray).toList := by
                  simp only [leftOf, Array.toList_filter, List.mem_filter]
                  refine ⟨f3, ?_⟩
                  simp only [Bool.not_eq_true', Array.contains_eq_any_beq, List.any_toArray, List.any_eq_false]
                  intro n hn hh
                  exact f2 n hn (by rw [f4]; simpa using hh)
                have hl0 : (leftOf es seen.toArray).toList.length = 0 := by simpa using g1
                rw [List.length_eq_zero_iff.1 hl0] at this
                cases this
            rw [hnil] at e
            exact goes_value hoi hw (hex rfl g2) (putD_post (show (putD o (.tup [.bool false]) s m).all _ from e) hS' hd L.le_refl h (.tup (.cons (.bool false) .nil)) hm)
          · have hmem : en ∈ es.toList ∧ ∀ n ∈ seen, en.born ≠ n := by
              simp only [leftOf, Array.toList_filter, List.mem_filter] at g1
              refine ⟨g1.1, fun n hn hh => ?_⟩
              have := g1.2
              simp only [Bool.not_eq_true', Array.contains_eq_any_beq, List.any_toArray, List.any_eq_false] at this
              exact this n hn (by simpa using hh)
            obtain ⟨u, f1, f2, f3, f4⟩ := k3.mem en hmem.1
            have hu : u ∈ left seen q.1 := left_mem f1 (fun n hn => by rw [f4]; exact hmem.2 n hn)
            have hl : (alts (fun e => s.h.set b (.it (some r) since (seen ++ [e.b]) q.2) fun h => putD o (.tup [.bool true, e.k, e.v]) ⟨h, s.nx⟩ m) (left seen q.1)).all (Post P ρ w0 L N S' K) := by
              cases hlf : left seen q.1 with
              | nil => rw [hlf] at hu; cases hu
              | cons y x => rw [hlf] at e; exact e
            have hleaf := alts_all hl u hu
            rw [Tr.set_put] at hleaf
            have hrel : Rel ρ w0 L ⟨s.h.put b (.it (some r) since (seen ++ [u.b]) q.2), s.nx⟩ (ChangeMaps.setBlock w1 B (.mapIter (some R) since (seen.toArray.push en.born) q.2)) := by
              have hw1 : Rel ρ w0 L s w1 := by
                rcases g2 with rfl | rfl
                · exact h
                · exact h.drew _
              have hB1 : w1.heap[B]? = w.heap[B]? := by rcases g2 with rfl | rfl <;> rfl
              refine hw1.putObj (o' := .it (some r) since (seen ++ [u.b]) q.2) hb rfl hL ?_
              intro B' base' sz' e'
              have e' : L b 0 = some (B', base', sz') := e'
              rw [hL] at e'
              injection e' with e'
              injection e' with e1 e2
              injection e2 with e2 e3
              subst e1 e2 e3
              have hltB := (Array.getElem?_eq_some_iff.1 (hB1.trans h1)).1
              refine ⟨hB, rfl, some R, ?_, .some hR⟩
              show (w1.heap.setIfInBounds B _)[B]? = _
              rw [Array.getElem?_setIfInBounds, if_pos rfl, if_pos hltB, f4]
              simp
            exact goes_value hoi hw (hex rfl g3) (putD_post hleaf hS' hd L.le_refl hrel (.tup (.cons (.bool true) (.cons f2 (.cons f3 .nil)))) hm)
    · exact e.elim
end
end Go.RI
namespace Go.RI
open Go Go.RowKit Go.Conc
section
variable {P : Program} {T : Tb} {ρ : Env} {w0 w : World} {L L' : Loc} {s s' : St} {m : Fm} {v : V} {a : Act} {N : Nat} {ops : Array Oper} {i : Nat} {o : Oper} {K : Act → World → Prop}
theorem stepG_sel (hoi : ops[i]? = some o) (hw : Region.wanted o (yielded ops a.tmps) = true) {cases : Array CommCase} (hr : (execOp a.eval o).run P w = .ok (.comm cases false .select) w) (b : Frame) (rest : List Nat) (k : List Item) (cs : List Frame) :
    ∃ es, stepG P true (G (b.at a (.inRegion ops (i :: rest) :: k)) cs) w = .comm (G (b.at a (.inRegion ops (i :: rest) :: k)) cs) cases false .select w es := by
  have hg := stepG_op (P := P) (b := b) (k := k) (cs := cs) (w := w) (rest := rest) hoi hw
  unfold G
  rw [hg]
  simp only [stepG.apply, Sem.runT_eq, hr]
  exact ⟨_, rfl⟩
theorem goes_sel (hoi : ops[i]? = some o) (hw : Region.wanted o (yielded ops a.tmps) = true) {cases : Array CommCase} (hr : (execOp a.eval o).run P w = .ok (.comm cases false .select) w) {x : Value} {w' : World}
    (hs : ∀ (fr : Frame) (cs : List Frame) (es : Array Event), stepG P true (G fr cs) w = .comm (G fr cs) cases false .select w es → step P (solo (G fr cs) w) = .next (solo (G (fr.finish x) cs) w')) (hk : K (a.put o.dst x) w') : Goes1 P ops i K a w := by
  intro b rest k cs
  obtain ⟨es, he⟩ := stepG_sel hoi hw hr b rest k cs
  have hfin : ∀ v, (b.at a (.inRegion ops (i :: rest) :: k)).finish v = b.at (a.put o.dst v) (.inRegion ops rest :: k) := by
    intro v; rw [Frame.finish_at, hoi]; rfl
  have := hs _ _ _ he
  rw [hfin] at this
  exact ⟨_, _, hk, .one this⟩
theorem sel_spec {S S' : Nat → Prop} (hS : ∀ t, Operand.tmp t ∈ o.op.operands → S t) (hS' : ∀ t, S' t → S t ∨ o.dst = some t) (hc : Ctx P T ρ w0) {c : SelectCase} {cases : Array SelectCase} (hcs : cases.toList = [c]) (hop : o.op = .select cases false) (hoi : ops[i]? = some o) (hw : Region.wanted o (yielded ops a.tmps) = true) (hd : ∀ d, o.dst = some d → d < N) (h : Rel ρ w0 L s w) (hm : RFmS P ρ S L N m a)
    (e : (sel T o c s m).all (Post P ρ w0 L N S' K)) : Goes1 P ops i K a w := by
  have hc1 : cases = #[c] := by
    apply Array.ext'
    simpa using hcs
  subst hc1
  unfold sel at e
  have hval : ∀ (x : Operand) (u : V), x ∈ o.op.operands → ev m x = some u → RV ρ L u (a.eval x) := fun x u hx hu => hm.opd o.op.operands hS x hx u hu
  split at e
  · -- a receive
    rename_i r z hch hz hsd
    have hcv := hval _ _ (by rw [hop]; simp [Op.operands]) hch
    obtain ⟨ti, zv, -, -, -, hzv, hzr⟩ := zer_spec hc hz
    generalize hx : a.eval c.chan = y at hcv
    cases hcv with
    | @ch _ R hR =>
      have hr : (execOp a.eval o).run P w = .ok (.comm #[rcase R zv] false .select) w := by
        unfold execOp
        simp [hop, hx, hsd, hzr, rcase]
      split at e
      · rename_i n x y hg
        obtain ⟨hB, -, buf, h1, h2⟩ := h.obj _ _ hg _ _ _ hR
        have hb : buf = #[] := by apply Array.ext'; cases hbl : buf.toList with | nil => rfl | cons p q => rw [hbl] at h2; cases h2
        subst hb
        exact goes_sel hoi hw hr (fun fr cs es he => step_lone_select_recv_shut he h1) (putD_post e hS' hd L.le_refl h (.tup (.cons (.int .i64 0) (.cons (.bool false) (.cons (hzv L) .nil)))) hm)
      · rename_i n x y hg
        obtain ⟨hB, -, buf, h1, h2⟩ := h.obj _ _ hg _ _ _ hR
        have hb : buf = #[] := by apply Array.ext'; cases hbl : buf.toList with | nil => rfl | cons p q => rw [hbl] at h2; cases h2
        subst hb
        exact goes_sel hoi hw hr (fun fr cs es he => step_lone_select_default he h1) (putD_post e hS' hd L.le_refl h (.tup (.cons (.int .i64 (-1)) (.cons (.bool false) (.cons (hzv L) .nil)))) hm)
      · rename_i n u l sh x y hg
        obtain ⟨hB, -, buf, h1, h2⟩ := h.obj _ _ hg _ _ _ hR
        rw [sN_eq, Tr.set_put] at e
        cases hbl : buf.toList with
        | nil => rw [hbl] at h2; cases h2
        | cons p q =>
          rw [hbl] at h2
          cases h2 with
          | cons h3 h4 =>
            have hsz : 0 < buf.size := by rw [← Array.length_toList, hbl]; simp
            have hhd : buf.getD 0 undef = p := by
              rw [Array.getD_eq_getD_getElem?, ← Array.getElem?_toList, hbl]
              rfl
            have htl : (buf.extract 1 buf.size).toList = q := by
              rw [Array.toList_extract, hbl, List.extract_eq_take_drop]
              simp [← Array.length_toList, hbl]
            have hst := fun (fr : Frame) (cs : List Frame) (es : Array Event) he => step_lone_select_recv_buf (P := P) (fr := fr) (cs := cs) (es := es) (w := w) (w₁ := w) (z := zv) he h1 hsz
            rw [hhd] at hst
            refine goes_sel hoi hw hr hst (putD_post e hS' hd L.le_refl ?_ (.tup (.cons (.int .i64 0) (.cons (.bool true) (.cons h3 .nil)))) hm)
            refine h.putObj (o' := .chan n l sh x (y + 1)) (c := .chan n (buf.extract 1 buf.size) sh x (y + 1) false) hg rfl hR ?_
            intro B' base' sz' e'
            have e' : L r 0 = some (B', base', sz') := e'
            rw [hR] at e'
            injection e' with e'
            injection e' with e1 e2
            injection e2 with e2 e3
            subst e1 e2 e3
            have hltB := (Array.getElem?_eq_some_iff.1 h1).1
            exact ⟨hB, rfl, _, by show (w.heap.setIfInBounds R _)[R]? = _; simp [hltB]; rfl, by rw [htl]; exact h4⟩
      · exact e.elim
  · -- a send
    rename_i r z x hch hz hsd
    have hcv := hval _ _ (by rw [hop]; simp [Op.operands]) hch
    obtain ⟨ti, zv, -, -, -, hzv, hzr⟩ := zer_spec hc hz
    generalize hx : a.eval c.chan = y at hcv
    cases hcv with
    | @ch _ R hR =>
      split at e
      · rename_i u n l aa bb hu hg
        have huv := hval _ _ (by rw [hop]; simp [Op.operands, hsd]) hu
        have hr : (execOp a.eval o).run P w = .ok (.comm #[scase R (a.eval x) zv] false .select) w := by
          unfold execOp
          simp [hop, hx, hsd, hzr, scase]
        obtain ⟨hB, -, buf, h1, h2⟩ := h.obj _ _ hg _ _ _ hR
        have hlen : len l = buf.size := by
          rw [len_eq, h2.length]
          simp
        cases hfit : Nat.blt (len l) n with
        | true =>
          rw [hfit] at e
          replace e : (sN (Nat.succ aa) fun a => s.h.set r (.chan n (l ++ [u]) false a bb) fun h => putD o (.tup [.int .i64 0, .bool false]) ⟨h, s.nx⟩ m).all (Post P ρ w0 L N S' K) := e
          rw [sN_eq, Tr.set_put] at e
          have hroom : buf.size < n := by rw [← hlen]; exact Nat.blt_eq.mp hfit
          refine goes_sel hoi hw hr (fun fr cs es he => step_lone_select_send_room he h1 hroom) (putD_post e hS' hd L.le_refl ?_ (.tup (.cons (.int .i64 0) (.cons (.bool false) .nil))) hm)
          refine h.putObj (o' := .chan n (l ++ [u]) false (aa + 1) bb) (c := .chan n (buf.push (a.eval x)) false (aa + 1) bb false) hg rfl hR ?_
          intro B' base' sz' e'
          have e' : L r 0 = some (B', base', sz') := e'
          rw [hR] at e'
          injection e' with e'
          injection e' with e1 e2
          injection e2 with e2 e3
          subst e1 e2 e3
          have hltB := (Array.getElem?_eq_some_iff.1 h1).1
          exact ⟨hB, rfl, _, by show (w.heap.setIfInBounds R _)[R]? = _; simp [hltB]; rfl, by rw [Array.toList_push]; exact h2.append (.cons huv .nil)⟩
        | false =>
          rw [hfit] at e
          replace e : (putD o (.tup [.int .i64 (.negSucc 0), .bool false]) s m).all (Post P ρ w0 L N S' K) := e
          have hfull : n ≤ buf.size := by
            rw [← hlen]
            exact Nat.le_of_not_lt fun q => by
              have := Nat.blt_eq.mpr q
              rw [hfit] at this
              cases this
          exact goes_sel hoi hw hr (fun fr cs es he => step_lone_select_send_full he h1 hfull) (putD_post e hS' hd L.le_refl h (.tup (.cons (.int .i64 (-1)) (.cons (.bool false) .nil))) hm)
      · exact e.elim
  · exact e.elim
end
end Go.RI
namespace Go.RI
open Go Go.RowKit
section
variable {P : Program} {T : Tb} {ρ : Env} {w0 w : World} {L L' : Loc} {s s' : St} {m : Fm} {v : V} {a : Act} {N : Nat} {cal : FuncId → List V → St → Oc Rr}
/-- An operation that is wanted. -/
theorem op2_spec {S S' : Nat → Prop} (hc : Ctx P T ρ w0) (hcal : SpecF P ρ w0 cal) {ops : Array Oper} {i : Nat} {o : Oper} (hoi : ops[i]? = some o) (hw : Region.wanted o (yielded ops a.tmps) = true) (hd : ∀ d, o.dst = some d → d < N) (h : Rel ρ w0 L s w) (hm : RFmS P ρ S L N m a) (hS : ∀ t, Operand.tmp t ∈ o.op.operands → S t) (hS' : ∀ t, S' t → S t ∨ o.dst = some t) {K : Act → World → Prop} (e : (op2 T cal o s m).all (Post P ρ w0 L N S' K)) : Goes1 P ops i K a w := by
  have hr := hm.opd o.op.operands hS
  unfold op2 at e
  cases hk : Nat.beq (opk o.op) 0 with
  | true =>
    rw [hk, cd_true] at e
    replace e := fin_all e
    obtain ⟨v, s', e, e2⟩ := e
    obtain ⟨x, w', L', h1, h2, h3, h4⟩ := opv_good hc h hr e
    have hput := putD_post e2 hS' hd h1 h2 h3 (hm.mono h1)
    rcases h4 with h4 | ⟨rfl, h4⟩
    · exact goes_value hoi hw h4 hput
    · exact goes_skip hoi hw h4 hput
  | false =>
    rw [hk, cd_false] at e
    unfold op3 at e
    split at e
    · -- a call
      rename_i c hop
      have hrc : Opd ρ L m a.eval c.operands := fun x hx => hr x (by rw [hop]; exact hx)
      have hex : ∀ W : World, (execOp a.eval o).run P W = ((resolve a.eval c o.type).run P W).andThen fun d W' => (invoke d.target d.args).run P W' := fun W => by
        unfold execOp
        simp only [hop, Sem.run_bind]
      unfold opC at e
      rcases tgt_spec (ty := o.type) hc hrc Oc.no (fun f l => (cal f l s).bnd fun r => putD o r.v r.s m) (fun b ts l => fin o m (bltn T b ts l s)) w with hb | ⟨f, l, xs, D, hb, hl, hres, hfn, hinv⟩ | ⟨b, l, xs, D, consts, hb, hl, hres, hinv⟩
      · rw [hb] at e
        exact e.elim
      · rw [hb] at e
        replace e := Oc.all_bnd e
        have hcf := hcal f l s L xs w (fun x w' => K (a.put o.dst x) w') h hl (Oc.all_mono (fun r hr' L' x w' hle hrel hv => putD_post hr' hS' hd hle hrel hv (hm.mono hle)) e)
        rcases hcf with ⟨g, w1, h1, h2⟩ | ⟨x, w1, h1, h2⟩
        · exact goes_enter hoi hw (by rw [hex, hres, Result.andThen_ok, hinv, h1]) h2
        · exact goes_value hoi hw (by rw [hex, hres, Result.andThen_ok, hinv, h1]) h2
      · rw [hb] at e
        replace e := fin_all e
        obtain ⟨v, s', e, e2⟩ := e
        obtain ⟨x, w', L', h1, h2, h3, h4⟩ := bltn_spec hc h hl (ty := o.type) (consts := consts) e
        rw [Array.toArray_toList] at h4
        exact goes_value hoi hw (by rw [hex, hres, Result.andThen_ok, hinv, h4]) (putD_post e2 hS' hd h1 h2 h3 (hm.mono h1))
    · -- put off
      rename_i c hop
      have hrc : Opd ρ L m a.eval c.operands := fun x hx => hr x (by rw [hop]; exact hx)
      rcases tgt_spec (ty := o.type) hc hrc Oc.no (fun f l => putD o (.tup []) s ⟨m.t, ⟨f, l⟩ :: m.d⟩) (fun _ _ _ => Oc.no) w with hb | ⟨f, l, xs, D, hb, hl, hres, hfn, hinv⟩ | ⟨b, l, xs, D, consts, hb, -⟩
      · rw [hb] at e
        exact e.elim
      · rw [hb] at e
        have hm' : RFmS P ρ S L N ⟨m.t, ⟨f, l⟩ :: m.d⟩ { a with defers := D :: a.defers } := ⟨hm.size, hm.tmp, .cons ⟨xs, hl, hfn, hinv⟩ hm.dfs⟩
        refine goes_defer (d := D) (w' := w) hoi hw ?_ (putD_post e hS' hd L.le_refl h (.tup .nil) hm')
        unfold execOp
        simp only [hop, Sem.run_bind, hres, Result.andThen_ok]
        rfl
      · rw [hb] at e
        exact e.elim
    · rename_i it b hop
      replace e := on_all e
      obtain ⟨u, hu, e⟩ := e
      have huv := hr it (by rw [hop]; simp [Op.operands]) u hu
      cases u with
      | ptr p =>
        cases p with
        | none => exact e.elim
        | some p =>
          cases p with
          | var _ _ => exact e.elim
          | own b' g q =>
            replace e := cd_all (show (cd (an (Nat.beq g 0) (Nat.beq q 0)) (nxt o b b' s m) Oc.no).all _ from e)
            obtain ⟨hgq, e⟩ := e
            obtain ⟨hg, hq⟩ := an_true hgq
            have := beq_iff.1 hg
            subst this
            have := beq_iff.1 hq
            subst this
            generalize hx : a.eval it = z at huv
            cases huv with
            | ptr hA => exact nxt_spec hS' hop hoi hw hd h hm hA hx e
      | _ => exact e.elim
    · rename_i cs hop
      split at e
      · rename_i c hcs
        exact sel_spec hS hS' hc hcs hop hoi hw hd h hm e
      · exact e.elim
    · exact e.elim
theorem op1_spec {S S' : Nat → Prop} (hc : Ctx P T ρ w0) (hcal : SpecF P ρ w0 cal) {ops : Array Oper} {i : Nat} {o : Oper} (hoi : ops[i]? = some o) (hd : ∀ d, o.dst = some d → d < N) (h : Rel ρ w0 L s w) (hm : RFmS P ρ S L N m a) (hS : ∀ t, Operand.tmp t ∈ o.op.operands → S t) (hS' : ∀ t, S' t → S t ∨ o.dst = some t) (hG : ∀ q oj t, o.guard = some q → ops[q.1]? = some oj → oj.dst = some t → S t) {K : Act → World → Prop} (e : (op1 T cal ops.toList o s m).all (Post P ρ w0 L N S' K)) : Goes1 P ops i K a w := by
  unfold op1 at e
  cases hg : o.guard with
  | none =>
    rw [hg] at e
    exact op2_spec hc hcal hoi (by unfold Region.wanted; rw [hg]) hd h hm hS hS' e
  | some q =>
    rw [hg] at e
    replace e := on_all (show (on (want ops.toList m q) Oc.no fun b => cd b (op2 T cal o s m) (putD o (.tup []) s m)).all _ from e)
    obtain ⟨b, hb, e⟩ := e
    have hw := want_spec hm hg (fun oj t => hG q oj t hg) hb
    cases b with
    | true => exact op2_spec hc hcal hoi hw hd h hm hS hS' e
    | false => exact goes_unwanted hoi hw (putD_post e hS' hd L.le_refl h (.tup .nil) hm)
/-- A region in order. -/
theorem seqO_spec (hc : Ctx P T ρ w0) (hcal : SpecF P ρ w0 cal) {ops : Array Oper} (hops : ∀ o ∈ ops.toList, ∀ d, o.dst = some d → d < N) {K : Act → World → Prop} :
    ∀ (l : List Oper) (k : Nat), (∀ j, l[j]? = ops[k + j]?) → ∀ {L : Loc} {s : St} {m : Fm} {a : Act} {w : World}, Rel ρ w0 L s w → RFm P ρ L N m a → (seqO T cal ops.toList l s m).all (Post P ρ w0 L N (fun _ => True) K) → Reg P ops (List.range' k l.length) K a w
  | [], k, hl, L, s, m, a, w, h, hm, e => reg_nil ((show Post P ρ w0 L N (fun _ => True) K ⟨.nrm, s, m⟩ from e) L a w L.le_refl h hm)
  | o :: l, k, hl, L, s, m, a, w, h, hm, e => by
    have h0 : ops[k]? = some o := by simpa using (hl 0).symm
    have ho := hops o (by rw [← Array.getElem?_toList] at h0; exact List.mem_of_getElem? h0)
    rw [List.length_cons, List.range'_succ]
    replace e := Oc.all_bnd (show ((op1 T cal ops.toList o s m).bnd fun q => seqO T cal ops.toList l q.s q.m).all _ from e)
    refine reg_cons (op1_spec (S := fun _ => True) (S' := fun _ => True) hc hcal h0 ho h hm (fun _ _ => trivial) (fun _ _ => .inl trivial) (fun _ _ _ _ _ _ => trivial) (Oc.all_mono (fun q hq L' a' w' hle hrel hm' => ?_) e))
    exact seqO_spec hc hcal hops l (k + 1) (fun j => by have := hl (j + 1); simpa [Nat.add_assoc, Nat.add_comm 1 j] using this) hrel hm' (Oc.all_mono (fun r hr L2 a2 w2 hle2 => hr L2 a2 w2 (Loc.le_trans hle hle2)) hq)
end
end Go.RI
namespace Go.RI
open Go Go.RowKit
theorem Oc.bnd_all {α β : Type} {p : β → Prop} {k : α → Oc β} : ∀ {o : Oc α}, o.all (fun a => (k a).all p) → (o.bnd k).all p
  | .no, h => h
  | .one a, h => h
  | .two x y, h => ⟨Oc.bnd_all (o := x) h.1, Oc.bnd_all (o := y) h.2⟩
section
variable {P : Program} {T : Tb} {ρ : Env} {w0 w : World} {L L' : Loc} {s s' : St} {m : Fm} {v : V} {a : Act} {N : Nat} {cal : FuncId → List V → St → Oc Rr} {rec : Code → St → Fm → Oc R} {Q : Exit → Act → World → Prop}
def exitOf : Ex → Exit
  | .nrm => .normal
  | .ext id => .exit id
  | .ret => .ret
/-- What is asked of a piece of code's ends. -/
def PostC (P : Program) (ρ : Env) (w0 : World) (L : Loc) (N : Nat) (Q : Exit → Act → World → Prop) (q : R) : Prop := ∀ L' a' w', L.le L' → Rel ρ w0 L' q.s w' → RFm P ρ L' N q.m a' → Q (exitOf q.x) a' w'
theorem PostC.mono {Q' : Exit → Act → World → Prop} {q : R} (h : PostC P ρ w0 L N Q q) (hq : ∀ e a w, Q e a w → Q' e a w) : PostC P ρ w0 L N Q' q := fun L' a' w' h1 h2 h3 => hq _ _ _ (h L' a' w' h1 h2 h3)
theorem PostC.le {q : R} (h : PostC P ρ w0 L N Q q) (hl : L.le L') : PostC P ρ w0 L' N Q q := fun L2 a' w' h1 h2 h3 => h L2 a' w' (Loc.le_trans hl h1) h2 h3
/-- A loop's further rounds. -/
def LoopWp (P : Program) (c : Code) (Q : Exit → Act → World → Prop) (a : Act) (w : World) : Prop :=
  ∀ (b : Frame) (k : List Item) (cs : List Frame), ∃ e a' w', Q e a' w' ∧ Arrives P (lone (b.at a (.code c :: .inLoop c :: k)) cs w) b k cs e a' w'
theorem LoopWp.wp {c : Code} (h : LoopWp P c Q a w) : (Code.loop c).wp P Q a w := fun b k cs => by
  obtain ⟨e, a', w', h1, h2⟩ := h b k cs
  exact ⟨e, a', w', h1, .of_steps (.one step_loop) h2⟩
theorem loop_once {c : Code} (h : c.wp P (Exit.then (LoopWp P c Q) Q) a w) : LoopWp P c Q a w := by
  intro b k cs
  obtain ⟨e, a₁, w₁, hq, harr⟩ := h b (.inLoop c :: k) cs
  cases e with
  | normal =>
    obtain ⟨e₂, a₂, w₂, hq₂, harr₂⟩ := (show LoopWp P c Q a₁ w₁ from hq) b k cs
    exact ⟨e₂, a₂, w₂, hq₂, .of_steps (Steps.trans harr (.one step_inLoop)) harr₂⟩
  | exit id => exact ⟨_, a₁, w₁, hq, .pass (x := .inLoop c) rfl (fun _ _ => .inl (by simp)) harr⟩
  | goto l => exact ⟨_, a₁, w₁, hq, .pass (x := .inLoop c) rfl (fun _ _ => .inl (by simp)) harr⟩
  | ret => exact ⟨_, a₁, w₁, hq, .pass (x := .inLoop c) rfl (fun _ _ => .inl (by simp)) harr⟩
  | panic ch => exact ⟨_, a₁, w₁, hq, .pass (x := .inLoop c) rfl (fun _ _ => .inl (by simp)) harr⟩
  | outgrown => exact ⟨_, a₁, w₁, hq, .pass (x := .inLoop c) rfl (fun _ _ => .inl (by simp)) harr⟩
/-- What a piece of code does; of a loop, also from within. -/
def CW (P : Program) (c : Code) (Q : Exit → Act → World → Prop) (a : Act) (w : World) : Prop := c.wp P Q a w ∧ ∀ b, c = .loop b → LoopWp P b Q a w
def OOk (N : Nat) (o : Oper) : Prop := ∀ d, o.dst = some d → d < N
def COk (N : Nat) : Code → Prop
  | .region _ ops _ => ∀ o ∈ ops.toList, OOk N o
  | .seq a b => COk N a ∧ COk N b
  | .cond _ a b => COk N a ∧ COk N b
  | .block _ c => COk N c
  | .loop c => COk N c
  | _ => True
/-- What is asked of pieces of code. -/
def SpecC (P : Program) (ρ : Env) (w0 : World) (rec : Code → St → Fm → Oc R) : Prop :=
  ∀ (c : Code) (s : St) (m : Fm) (L : Loc) (N : Nat) (a : Act) (w : World) (Q : Exit → Act → World → Prop), COk N c → Rel ρ w0 L s w → RFm P ρ L N m a → (rec c s m).all (PostC P ρ w0 L N Q) → CW P c Q a w
/-- What is asked of regions that draw their order. -/
def SpecD (P : Program) (T : Tb) (ρ : Env) (w0 : World) (cal : FuncId → List V → St → Oc Rr) : Prop :=
  ∀ (id : Nat) (ops : Array Oper) (s : St) (m : Fm) (L : Loc) (N : Nat) (a : Act) (w : World) (Q : Exit → Act → World → Prop), (∀ o ∈ ops.toList, OOk N o) → Rel ρ w0 L s w → RFm P ρ L N m a → (drR T cal ops.toList s m).all (PostC P ρ w0 L N Q) → (Code.region id ops true).wp P Q a w
theorem putD_nrm {o : Oper} {p : R → Prop} (h : (putD o v s m).all p) : (putD o v s m).all fun q => q.x = .nrm ∧ p q := by
  unfold putD at h ⊢
  cases hd : o.dst with
  | none => rw [hd] at h; exact ⟨rfl, h⟩
  | some d =>
    rw [hd] at h
    have h : (m.t.set d v fun t => Oc.one (⟨.nrm, s, ⟨t, m.d⟩⟩ : R)).all p := h
    show (m.t.set d v fun t => Oc.one (⟨.nrm, s, ⟨t, m.d⟩⟩ : R)).all _
    rw [Tr.set_put] at h ⊢
    exact ⟨rfl, h⟩
theorem seqO_nrm {all : List Oper} {p : R → Prop} : ∀ {l : List Oper} {s : St} {m : Fm}, (seqO T cal all l s m).all p → (seqO T cal all l s m).all fun q => q.x = .nrm ∧ p q
  | [], s, m, h => ⟨rfl, h⟩
  | o :: l, s, m, h => by
    have h := Oc.all_bnd (show ((op1 T cal all o s m).bnd fun q => seqO T cal all l q.s q.m).all p from h)
    show ((op1 T cal all o s m).bnd fun q => seqO T cal all l q.s q.m).all _
    exact Oc.bnd_all (Oc.all_mono (fun q hq => seqO_nrm hq) h)
theorem onEx_all2 {x : Ex} {n : Oc Rr} {e : Nat → Oc Rr} {r : Oc Rr} {p : Rr → Prop} (h : (onEx x n e r).all p) : (x = .nrm ∧ n.all p) ∨ (∃ id, x = .ext id ∧ (e id).all p) ∨ (x = .ret ∧ r.all p) := by
  cases x with
  | nrm => exact .inl ⟨rfl, h⟩
  | ext id => exact .inr (.inl ⟨id, rfl, h⟩)
  | ret => exact .inr (.inr ⟨rfl, h⟩)
theorem onEx_all {x : Ex} {n : Oc R} {e : Nat → Oc R} {r : Oc R} {p : R → Prop} (h : (onEx x n e r).all p) : (x = .nrm ∧ n.all p) ∨ (∃ id, x = .ext id ∧ (e id).all p) ∨ (x = .ret ∧ r.all p) := by
  cases x with
  | nrm => exact .inl ⟨rfl, h⟩
  | ext id => exact .inr (.inl ⟨id, rfl, h⟩)
  | ret => exact .inr (.inr ⟨rfl, h⟩)
theorem exS_spec (hc : Ctx P T ρ w0) (hcal : SpecF P ρ w0 cal) (hdr : SpecD P T ρ w0 cal) (hrec : SpecC P ρ w0 rec) : SpecC P ρ w0 (fun c s m => exS c T rec cal s m) := by
  intro c s m L N a w Q hok h hm e
  replace e : (exS c T rec cal s m).all (PostC P ρ w0 L N Q) := e
  cases c with
  | skip => exact ⟨wp_skip ((show PostC P ρ w0 L N Q ⟨.nrm, s, m⟩ from e) L a w L.le_refl h hm), fun b hb => by cases hb⟩
  | region id ops d =>
    refine ⟨?_, fun b hb => by cases hb⟩
    cases d with
    | true => exact hdr id ops s m L N a w Q hok h hm e
    | false =>
      replace e : (seqO T cal ops.toList ops.toList s m).all (PostC P ρ w0 L N Q) := e
      have e' := Oc.all_mono (q := Post P ρ w0 L N (fun _ => True) (Q .normal)) (fun q hq L' a' w' h1 h2 h3 => by
        have := hq.2 L' a' w' h1 h2 h3
        rw [hq.1] at this
        exact this) (seqO_nrm e)
      have := seqO_spec hc hcal (N := N) hok ops.toList 0 (fun j => by simp) h hm e'
      refine wp_reg ?_
      rw [List.range_eq_range', ← Array.length_toList]
      exact this
  | seq x y =>
    refine ⟨?_, fun b hb => by cases hb⟩
    replace e := Oc.all_bnd (show ((rec x s m).bnd fun r => onEx r.x (rec y r.s r.m) (fun _ => .one r) (.one r)).all _ from e)
    refine wp_seq (hrec x s m L N a w _ hok.1 h hm (Oc.all_mono (fun q hq L' a' w' h1 h2 h3 => ?_) e)).1
    rcases onEx_all hq with ⟨hx, hq⟩ | ⟨id, hx, hq⟩ | ⟨hx, hq⟩
    · rw [hx]
      exact (hrec y q.s q.m L' N a' w' Q hok.2 h2 h3 (Oc.all_mono (fun q hq => hq.le h1) hq)).1
    · have := (show PostC P ρ w0 L N Q q from hq) L' a' w' h1 h2 h3
      rw [hx] at this ⊢
      exact this
    · have := (show PostC P ρ w0 L N Q q from hq) L' a' w' h1 h2 h3
      rw [hx] at this ⊢
      exact this
  | cond c x y =>
    refine ⟨?_, fun b hb => by cases hb⟩
    replace e := on_all (show (on (ev m c) Oc.no fun v => onBool v .no fun t => cd t (rec x s m) (rec y s m)).all _ from e)
    obtain ⟨v, hv, e⟩ := e
    have hcv := hm.opd #[c] (fun _ _ => trivial) c (by simp) v hv
    cases v with
    | bool t =>
      replace e : (cd t (rec x s m) (rec y s m)).all (PostC P ρ w0 L N Q) := e
      generalize hx : a.eval c = z at hcv
      cases hcv
      cases t with
      | true => exact wp_cond_true hx (hrec x s m L N a w Q hok.1 h hm e).1
      | false => exact wp_cond_false hx (hrec y s m L N a w Q hok.2 h hm e).1
    | _ => exact e.elim
  | block id c =>
    refine ⟨?_, fun b hb => by cases hb⟩
    replace e := Oc.all_bnd (show ((rec c s m).bnd fun r => onEx r.x (.one r) (fun j => cd (Nat.beq j id) (.one ⟨.nrm, r.s, r.m⟩) (.one r)) (.one r)).all _ from e)
    refine wp_block (hrec c s m L N a w _ hok h hm (Oc.all_mono (fun q hq L' a' w' h1 h2 h3 => ?_) e)).1
    rcases onEx_all hq with ⟨hx, hq⟩ | ⟨j, hx, hq⟩ | ⟨hx, hq⟩
    · have := (show PostC P ρ w0 L N Q q from hq) L' a' w' h1 h2 h3
      rw [hx] at this ⊢
      exact this
    · rw [hx]
      cases hj : Nat.beq j id with
      | true =>
        rw [hj, cd_true] at hq
        have := (show PostC P ρ w0 L N Q ⟨.nrm, q.s, q.m⟩ from hq) L' a' w' h1 h2 h3
        have hji := beq_iff.1 hj
        subst hji
        simpa [Exit.inBlock, exitOf] using this
      | false =>
        rw [hj, cd_false] at hq
        have := (show PostC P ρ w0 L N Q q from hq) L' a' w' h1 h2 h3
        rw [hx] at this
        have hji : j ≠ id := fun q => by rw [q] at hj; rw [Nat.beq_refl] at hj; cases hj
        simpa [Exit.inBlock, exitOf, hji] using this
    · have := (show PostC P ρ w0 L N Q q from hq) L' a' w' h1 h2 h3
      rw [hx] at this ⊢
      exact this
  | loop c =>
    have hl : LoopWp P c Q a w := by
      replace e := Oc.all_bnd (show ((rec c s m).bnd fun r => onEx r.x (rec (.loop c) r.s r.m) (fun _ => .one r) (.one r)).all _ from e)
      refine loop_once (hrec c s m L N a w _ hok h hm (Oc.all_mono (fun q hq L' a' w' h1 h2 h3 => ?_) e)).1
      rcases onEx_all hq with ⟨hx, hq⟩ | ⟨id, hx, hq⟩ | ⟨hx, hq⟩
      · rw [hx]
        exact (hrec (.loop c) q.s q.m L' N a' w' Q hok h2 h3 (Oc.all_mono (fun q hq => hq.le h1) hq)).2 c rfl
      · have := (show PostC P ρ w0 L N Q q from hq) L' a' w' h1 h2 h3
        rw [hx] at this ⊢
        exact this
      · have := (show PostC P ρ w0 L N Q q from hq) L' a' w' h1 h2 h3
        rw [hx] at this ⊢
        exact this
    exact ⟨hl.wp, fun b hb => by injection hb with hb; subst hb; exact hl⟩
  | rangeFunc f ps as c => exact e.elim
  | exit id => exact ⟨wp_exit ((show PostC P ρ w0 L N Q ⟨.ext id, s, m⟩ from e) L a w L.le_refl h hm), fun b hb => by cases hb⟩
  | scope c => exact e.elim
  | label l => exact ⟨wp_label ((show PostC P ρ w0 L N Q ⟨.nrm, s, m⟩ from e) L a w L.le_refl h hm), fun b hb => by cases hb⟩
  | goto l => exact e.elim
  | ret => exact ⟨wp_ret ((show PostC P ρ w0 L N Q ⟨.ret, s, m⟩ from e) L a w L.le_refl h hm), fun b hb => by cases hb⟩
  | refuse y => exact e.elim
end
end Go.RI
namespace Go.RI
open Go Go.RowKit
section
variable {P : Program} {T : Tb} {ρ : Env} {w0 w : World} {L L' : Loc} {s s' : St} {m : Fm} {v : V} {a : Act} {N : Nat} {cal : FuncId → List V → St → Oc Rr} {rec : Code → St → Fm → Oc R} {Q : Exit → Act → World → Prop}
/-! results -/
theorem resL_spec (hc : Ctx P T ρ w0) (h : Rel ρ w0 L s w) (hm : RFm P ρ L N m a) : ∀ {l : List ResultVar} {vs : List V}, resL T s m l = some vs → ∃ xs, RVs ρ L vs xs ∧
    (l.mapM (fun x => match x with
      | ResultVar.tmp t => (pure (a.tmps.getD t undef) : Sem Value)
      | .cell c t => do loadVar t (← asAddr (a.tmps.getD c undef)))).run P w = .ok xs w
  | [], vs, e => by
    have e : some [] = some vs := e
    injection e with e
    subst e
    exact ⟨[], .nil, rfl⟩
  | x :: l, vs, e => by
    replace e : on (res1 T s m x) none (fun v => on (resL T s m l) none fun r => some (v :: r)) = some vs := e
    replace e := on_some e
    obtain ⟨u, hu, e⟩ := e
    replace e := on_some e
    obtain ⟨us, hus, e⟩ := e
    injection e with e
    subst e
    obtain ⟨xs, k1, k2⟩ := resL_spec hc h hm hus
    have one : ∃ y, RV ρ L u y ∧ (match x with
      | ResultVar.tmp t => (pure (a.tmps.getD t undef) : Sem Value)
      | .cell c t => do loadVar t (← asAddr (a.tmps.getD c undef))).run P w = .ok y w := by
      cases x with
      | tmp t =>
        obtain ⟨y, h1, h2⟩ := hm.tmp t u trivial hu
        exact ⟨y, h2, by simp [Array.getD_eq_getD_getElem?, h1]⟩
      | cell c t =>
        replace hu : on (m.t.get c) none (fun v => onPtr v none fun p => ldv T s t p) = some u := hu
        replace hu := on_some hu
        obtain ⟨z, hz, hu⟩ := hu
        obtain ⟨y, h1, h2⟩ := hm.tmp c z trivial hz
        cases z with
        | ptr p =>
          cases p with
          | none => cases hu
          | some p =>
            cases h2 with
            | ptr hA =>
              obtain ⟨x, g1, g2⟩ := ldv_spec hc h hA (show ldv T s t p = some u from hu)
              exact ⟨x, g1, by simp [Array.getD_eq_getD_getElem?, h1, asAddr, g2]⟩
        | _ => cases hu
    obtain ⟨y, g1, g2⟩ := one
    refine ⟨y :: xs, .cons g1 k1, ?_⟩
    rw [List.mapM_cons]
    simp only [Sem.run_bind, g2, Result.andThen_ok, k2, Sem.run_pure]
theorem resV_spec {vs : List V} {xs : List Value} (h : RVs ρ L vs xs) : RV ρ L (resV vs) (if h : xs.toArray.size = 1 then xs.toArray[0] else .tuple xs.toArray) := by
  cases h with
  | nil => exact .tup .nil
  | cons h1 h2 =>
    cases h2 with
    | nil => exact h1
    | cons h2 h3 => exact .tup (.cons h1 (.cons h2 h3))
theorem endC_spec (hc : Ctx P T ρ w0) (h : Rel ρ w0 L s w) (hm : RFm P ρ L N m a) {fn : Func} {p : Rr → Prop} (e : (endC T fn m s).all p) : ∃ u x, RV ρ L u x ∧ (results fn a.tmps).run P w = .ok x w ∧ p ⟨u, s⟩ := by
  unfold endC at e
  replace e := on_all e
  obtain ⟨vs, hvs, e⟩ := e
  obtain ⟨xs, h1, h2⟩ := resL_spec hc h hm hvs
  refine ⟨resV vs, _, resV_spec h1, ?_, e⟩
  unfold results
  rw [Array.mapM_eq_mapM_toList]
  simp only [Array.getD_eq_getD_getElem?] at h2
  simp
  generalize hz : Sem.run P (List.mapM _ fn.results.toList) w = z
  have h3 : z = Result.ok xs w := hz.symm.trans h2
  subst h3
  rfl
theorem run_enter {f : FuncId} {fn : Func} {c : Code} (hf : P.funcs[f]? = some fn) (hname : (fn.name == "runtime.NumGoroutine") = false) (hb : fn.body = some c) (args : Array Value) (w : World) : (callFunc f args).run P w = .ok (.enter f args) w := by
  have h1 : fn.name ≠ "runtime.NumGoroutine" := by simpa using hname
  simp [callFunc, hf, h1, hb]
/-- What is known of each function that is called. -/
def FnsOk (T : Tb) : Prop := ∀ f fn c, T.fn f = some fn → fn.body = some c → (fn.name == "runtime.NumGoroutine") = false ∧ COk fn.ntmps c
theorem enter_rfm {l : List V} {xs : List Value} (hl : RVs ρ L l xs) {n : Nat} (hn : l.length ≤ n) : RFm P ρ L n ⟨wrT l 0 .lf, []⟩ { tmps := xs.toArray ++ Array.replicate (n - xs.toArray.size) undef, defers := [] } := by
  have hlen := hl.length
  refine ⟨by simp; omega, fun i v _ hv => ?_, .nil⟩
  rw [wrT_get] at hv
  by_cases c : 0 ≤ i ∧ i < 0 + l.length
  · rw [if_pos c, Nat.sub_zero] at hv
    obtain ⟨x, h1, h2⟩ := hl.get hv
    refine ⟨x, ?_, h2⟩
    have : i < xs.length := by omega
    show (xs.toArray ++ _)[i]? = some x
    rw [Array.getElem?_append_left (by simpa using this)]
    simpa using h1
  · rw [if_neg c] at hv
    cases hv
/-- What is asked of calls that were put off. -/
def PutOff (P : Program) (f : FuncId) (xs : Array Value) (w : World) (K : World → Prop) : Prop :=
  ∃ g, (callFunc f xs).run P w = .ok (.enter g xs) w ∧ CallsD P g xs .returning w fun e u w' => u = .returning ∧ (∃ x, e = .returned x) ∧ K w'
theorem PutOff.mono {f : FuncId} {xs : Array Value} {K K' : World → Prop} (h : PutOff P f xs w K) (hk : ∀ w, K w → K' w) : PutOff P f xs w K' :=
  let ⟨g, h1, h2⟩ := h; ⟨g, h1, h2.mono fun e u w' ⟨h3, h4, h5⟩ => ⟨h3, h4, hk _ h5⟩⟩
theorem callD_spec (hc : Ctx P T ρ w0) (hf : FnsOk T) (hrec : SpecC P ρ w0 rec) (h : Rel ρ w0 L s w) {f : FuncId} {l : List V} {xs : List Value} (hl : RVs ρ L l xs) {K : World → Prop} (e : (callD T rec f l s).all fun r => ∀ L' w', L.le L' → Rel ρ w0 L' r.s w' → K w') : PutOff P f xs.toArray w K := by
  unfold callD at e
  replace e := on_all e
  obtain ⟨fn, hfn, e⟩ := e
  replace e := on_all e
  obtain ⟨c, hb, e⟩ := e
  replace e := cd_all e
  obtain ⟨hn, e⟩ := e
  rw [wrL_eq] at e
  replace e := Oc.all_bnd e
  obtain ⟨hname, hok⟩ := hf f fn c hfn hb
  have hP := hc.fn f fn hfn
  rw [len_eq] at hn
  have hn := Nat.le_of_ble_eq_true hn
  have hwp := (hrec c s ⟨wrT l 0 .lf, []⟩ L fn.ntmps _ w (bodyPost P fn fun e w' => (∃ x, e = .returned x) ∧ K w') hok h (enter_rfm hl hn) (Oc.all_mono (fun q hq L' a' w' h1 h2 h3 => ?_) e)).1
  · exact ⟨f, run_enter hP hname hb _ _, (callsD_of_wp hP hb hwp).mono fun e u w' h => ⟨h.1, h.2.1, h.2.2⟩⟩
  · have hd := h3.dfs
    have fin : (endC T fn q.m q.s).all (fun r => ∀ L' w', L.le L' → Rel ρ w0 L' r.s w' → K w') → a'.defers = [] → (a'.defers = [] ∧ ∃ v, (results fn a'.tmps).run P w' = .ok v w' ∧ (∃ x, Ending.returned v = .returned x) ∧ K w') := fun hh hd => by
      obtain ⟨u, x, g1, g2, g3⟩ := endC_spec hc h2 h3 hh
      exact ⟨hd, x, g2, ⟨x, rfl⟩, g3 L' w' h1 h2⟩
    cases hmd : q.m.d with
    | cons d ds => rw [hmd] at hq; exact hq.elim
    | nil =>
      rw [hmd] at hq hd
      have hd0 : a'.defers = [] := by generalize a'.defers = ds at hd; cases hd; rfl
      rcases onEx_all2 hq with ⟨hx, hq⟩ | ⟨id, hx, hq⟩ | ⟨hx, hq⟩
      · rw [hx]
        exact fin hq hd0
      · exact hq.elim
      · rw [hx]
        exact fin hq hd0
end
end Go.RI
namespace Go.RI
open Go Go.RowKit
section
variable {P : Program} {T : Tb} {ρ : Env} {w0 w : World} {L L' : Loc} {s s' : St} {m : Fm} {v : V} {a : Act} {N : Nat} {cal : FuncId → List V → St → Oc Rr} {rec : Code → St → Fm → Oc R} {Q : Exit → Act → World → Prop} {nat : FuncId → List V → St → Option (Oc Rr)} {dnat : FuncId → List V → St → Option St}
/-- What is asked of calls that are answered natively, being put off. -/
def SpecDn (P : Program) (ρ : Env) (w0 : World) (dnat : FuncId → List V → St → Option St) : Prop :=
  ∀ (f : FuncId) (l : List V) (s s' : St) (L : Loc) (xs : List Value) (w : World) (K : World → Prop), Rel ρ w0 L s w → RVs ρ L l xs → dnat f l s = some s' → (∀ L' w', L.le L' → Rel ρ w0 L' s' w' → K w') → PutOff P f xs.toArray w K
/-- What is asked of calls that are answered natively. -/
def SpecN (P : Program) (ρ : Env) (w0 : World) (nat : FuncId → List V → St → Option (Oc Rr)) : Prop :=
  ∀ (f : FuncId) (l : List V) (s : St) (o : Oc Rr) (L : Loc) (xs : List Value) (w : World) (K : Value → World → Prop), Rel ρ w0 L s w → RVs ρ L l xs → nat f l s = some o → o.all (fun r => ∀ L' x w', L.le L' → Rel ρ w0 L' r.s w' → RV ρ L' r.v x → K x w') → CallF P f xs.toArray w K
/-- What is asked of an end. -/
def PostR (P : Program) (ρ : Env) (w0 : World) (L : Loc) (K : Value → World → Prop) (r : Rr) : Prop := ∀ L' x w', L.le L' → Rel ρ w0 L' r.s w' → RV ρ L' r.v x → K x w'
theorem PostR.le {K : Value → World → Prop} {r : Rr} (h : PostR P ρ w0 L K r) (hl : L.le L') : PostR P ρ w0 L' K r := fun L2 x w' h1 h2 h3 => h L2 x w' (Loc.le_trans hl h1) h2 h3
theorem endC_le (hc : Ctx P T ρ w0) {fn : Func} {a : Act} {K : Value → World → Prop} (h : Rel ρ w0 L' s w) (hl : L.le L') (hm : RFm P ρ L' N m a) (e : (endC T fn m s).all (PostR P ρ w0 L K)) : ∃ x, (results fn a.tmps).run P w = .ok x w ∧ K x w := by
  obtain ⟨u, x, g1, g2, g3⟩ := endC_spec hc h hm e
  exact ⟨x, g2, (show PostR P ρ w0 L K ⟨u, s⟩ from g3) L' x w hl h g1⟩
theorem runD_spec (hc : Ctx P T ρ w0) (hf : FnsOk T) (hrec : SpecC P ρ w0 rec) (hdn : SpecDn P ρ w0 dnat) {fn : Func} {tmps : Array Value} {K : Value → World → Prop} (k : St → Oc Rr) (L0 : Loc)
    (hend : ∀ {L : Loc} {s : St} {w : World}, L0.le L → Rel ρ w0 L s w → (k s).all (PostR P ρ w0 L0 K) → ∃ x, (results fn tmps).run P w = .ok x w ∧ K x w) :
    ∀ {ds : List Df} {Ds : List Deferred} {L : Loc} {s : St} {w : World}, L0.le L → RDs P ρ L ds Ds → Rel ρ w0 L s w → (runD T dnat rec ds s k).all (PostR P ρ w0 L0 K) →
      Leaves P fn tmps (fun e w' => ∃ x, e = .returned x ∧ K x w') Ds .returning w
  | [], _, L, s, w, hle, .nil, h, e => by
    obtain ⟨x, h1, h2⟩ := hend hle h e
    exact ⟨x, h1, x, rfl, h2⟩
  | d :: ds, _, L, s, w, hle, .cons (D := D) (r := Ds) hd hds, h, e => by
    obtain ⟨xs, h1, ⟨fv, cap, h2⟩, h3⟩ := hd
    have step : ∀ {s1 : St}, (runD T dnat rec ds s1 k).all (PostR P ρ w0 L0 K) → ∀ L' w', L.le L' → Rel ρ w0 L' s1 w' → Leaves P fn tmps (fun e w' => ∃ x, e = .returned x ∧ K x w') Ds .returning w' :=
      fun e1 L' w' g1 g2 => runD_spec hc hf hrec hdn k L0 hend (Loc.le_trans hle g1) (hds.mono g1) g2 e1
    have fin : PutOff P d.f xs.toArray w (fun w' => Leaves P fn tmps (fun e w' => ∃ x, e = .returned x ∧ K x w') Ds .returning w') → Leaves P fn tmps (fun e w' => ∃ x, e = .returned x ∧ K x w') (D :: Ds) .returning w := by
      rintro ⟨g, g1, g2⟩
      refine ⟨(by intro q; cases q), fv, cap, g, xs.toArray, h2, (h3 w).trans g1, g2.mono fun e u w' ⟨q1, ⟨x, q2⟩, q3⟩ => ?_⟩
      subst q1 q2
      exact q3
    unfold runD at e
    split at e
    · rename_i s1 hs1
      exact fin (hdn d.f d.l s s1 L xs w _ h h1 hs1 (step e))
    · replace e := Oc.all_bnd e
      exact fin (callD_spec hc hf hrec h h1 (Oc.all_mono (fun q hq L' w' g1 g2 => step hq L' w' g1 g2) e))
theorem callB_spec (hc : Ctx P T ρ w0) (hf : FnsOk T) (hrec : SpecC P ρ w0 rec) (hdn : SpecDn P ρ w0 dnat) (h : Rel ρ w0 L s w) {f : FuncId} {l : List V} {xs : List Value} (hl : RVs ρ L l xs) {K : Value → World → Prop} (e : (callS T dnat rec f l s).all (PostR P ρ w0 L K)) : CallF P f xs.toArray w K := by
  unfold callS at e
  replace e := on_all e
  obtain ⟨fn, hfn, e⟩ := e
  replace e := on_all e
  obtain ⟨c, hb, e⟩ := e
  unfold callB at e
  replace e := cd_all e
  obtain ⟨hn, e⟩ := e
  rw [wrL_eq] at e
  replace e := Oc.all_bnd e
  obtain ⟨hname, hok⟩ := hf f fn c hfn hb
  have hP := hc.fn f fn hfn
  rw [len_eq] at hn
  have hn := Nat.le_of_ble_eq_true hn
  have hwp := (hrec c s ⟨wrT l 0 .lf, []⟩ L fn.ntmps _ w (bodyPostD P fn fun e w' => ∃ x, e = .returned x ∧ K x w') hok h (enter_rfm hl hn) (Oc.all_mono (fun q hq L' a' w' h1 h2 h3 => ?_) e)).1
  · exact .inl ⟨f, w, run_enter hP hname hb _ _, calls_of_wp_defers hP hb hwp⟩
  · have fin : (runD T dnat rec q.m.d q.s (endC T fn q.m)).all (PostR P ρ w0 L K) → Leaves P fn a'.tmps (fun e w' => ∃ x, e = .returned x ∧ K x w') a'.defers .returning w' := fun e1 =>
      runD_spec hc hf hrec hdn (endC T fn q.m) L' (fun {L2 s2 w2} g1 g2 g3 => endC_le hc g2 g1 (h3.mono g1) g3) L'.le_refl h3.dfs h2 (Oc.all_mono (fun r hr => hr.le h1) e1)
    rcases onEx_all2 hq with ⟨hx, hq⟩ | ⟨id, hx, hq⟩ | ⟨hx, hq⟩
    · rw [hx]
      exact fin hq
    · exact hq.elim
    · rw [hx]
      exact fin hq
/-- Code, and calls, of so many levels. -/
theorem both_spec (hc : Ctx P T ρ w0) (hf : FnsOk T) (hn : SpecN P ρ w0 nat) (hdn : SpecDn P ρ w0 dnat) (hdr : ∀ cal, SpecF P ρ w0 cal → SpecD P T ρ w0 cal) : ∀ n, SpecC P ρ w0 (both T nat dnat n).e ∧ SpecF P ρ w0 (both T nat dnat n).c
  | 0 => ⟨fun c s m L N a w Q _ _ _ e => e.elim, fun f l s L xs w K _ _ e => e.elim⟩
  | n + 1 => by
    obtain ⟨ih1, ih2⟩ := both_spec hc hf hn hdn hdr n
    refine ⟨exS_spec hc ih2 (hdr _ ih2) ih1, fun f l s L xs w K h hl e => ?_⟩
    replace e : (on (nat f l s) (callS T dnat (both T nat dnat n).e f l s) id).all _ := e
    cases hnat : nat f l s with
    | none =>
      rw [hnat] at e
      exact callB_spec hc hf ih1 hdn h hl e
    | some o =>
      rw [hnat] at e
      exact hn f l s o L xs w K h hl hnat e
end
end Go.RI
namespace Go.RI
open Go Go.RowKit
/-! equal is equal -/
theorem iEq_true {a b : Int} (h : iEq a b = true) : a = b := by
  cases a <;> cases b <;> first | (cases h; done) | skip
  · exact congrArg Int.ofNat (beq_iff.1 h)
  · exact congrArg Int.negSucc (beq_iff.1 h)
theorem plEq_true : ∀ {a b : Option Pl}, plEq a b = true → a = b
  | none, none, _ => rfl
  | none, some _, h => by cases h
  | some (.own ..), none, h => by cases h
  | some (.var ..), none, h => by cases h
  | some (.own b g o), some (.own b' g' o'), h => by
    obtain ⟨h1, h2⟩ := an_true (show an (Nat.beq b b') (an (Nat.beq g g') (Nat.beq o o')) = true from h)
    obtain ⟨h2, h3⟩ := an_true h2
    rw [beq_iff.1 h1, beq_iff.1 h2, beq_iff.1 h3]
  | some (.var b o), some (.var b' o'), h => by
    obtain ⟨h1, h2⟩ := an_true (show an (Nat.beq b b') (Nat.beq o o') = true from h)
    rw [beq_iff.1 h1, beq_iff.1 h2]
  | some (.own ..), some (.var ..), h => by cases h
  | some (.var ..), some (.own ..), h => by cases h
theorem onEq_true : ∀ {a b : Option Nat}, onEq a b = true → a = b
  | none, none, _ => rfl
  | none, some _, h => by cases h
  | some _, none, h => by cases h
  | some a, some b, h => by rw [beq_iff.1 (show Nat.beq a b = true from h)]
theorem fnEq_true {a b : Fn} (h : fnEq a b = true) : a = b := by
  cases a <;> cases b <;> first | (cases h; done) | skip
  rw [beq_iff.1 (show Nat.beq _ _ = true from h)]
mutual
theorem V.beq_true : ∀ {a b : V}, V.beq a b = true → a = b
  | .bool a, b, h => by
    cases b <;> simp [V.beq] at h
    cases a <;> simp_all [nt_eq]
  | .int k a, b, h => by
    cases b <;> simp [V.beq] at h
    obtain ⟨h1, h2⟩ := an_true h
    rw [kn_inj h1, iEq_true h2]
  | .str a, b, h => by
    cases b <;> simp [V.beq] at h
    rw [lEq_eq] at h
    simp at h
    rw [h]
  | .ptr a, b, h => by
    cases b <;> simp [V.beq] at h
    rw [plEq_true h]
  | .sl a n c, b, h => by
    cases b <;> simp [V.beq] at h
    obtain ⟨h1, h2⟩ := an_true h
    obtain ⟨h2, h3⟩ := an_true h2
    rw [plEq_true h1, beq_iff.1 h2, beq_iff.1 h3]
  | .sg a n c, b, h => by
    cases b <;> simp [V.beq] at h
    obtain ⟨h1, h2⟩ := an_true h
    obtain ⟨h2, h3⟩ := an_true h2
    have := plEq_true h1
    injection this with this
    rw [this, beq_iff.1 h2, beq_iff.1 h3]
  | .mp a, b, h => by
    cases b <;> simp [V.beq] at h
    rw [onEq_true h]
  | .ch a, b, h => by
    cases b <;> simp [V.beq] at h
    rw [onEq_true h]
  | .fn f x y, b, h => by
    cases b <;> simp [V.beq] at h
    obtain ⟨h1, h2⟩ := an_true h
    obtain ⟨h2, h3⟩ := an_true h2
    rw [fnEq_true h1, beqs_true h2, beqs_true h3]
  | .nilF, b, h => by
    cases b <;> simp [V.beq] at h
    rfl
  | .ifc t v, b, h => by
    cases b <;> simp [V.beq] at h
    obtain ⟨h1, h2⟩ := an_true h
    rw [beq_iff.1 h1, V.beq_true h2]
  | .nilI, b, h => by
    cases b <;> simp [V.beq] at h
    rfl
  | .un a, b, h => by
    cases b <;> simp [V.beq] at h
    rw [h]
  | .agg x, b, h => by
    cases b <;> simp [V.beq] at h
    rw [beqs_true h]
  | .tup x, b, h => by
    cases b <;> simp [V.beq] at h
    rw [beqs_true h]
theorem beqs_true : ∀ {a b : List V}, beqs a b = true → a = b
  | [], b, h => by
    cases b with
    | nil => rfl
    | cons _ _ => simp [beqs] at h
  | a :: x, b, h => by
    cases b with
    | nil => simp [beqs] at h
    | cons b y =>
      simp only [beqs] at h
      obtain ⟨h1, h2⟩ := an_true h
      rw [V.beq_true h1, beqs_true h2]
end
section
variable {P : Program} {T : Tb} {ρ ρ' : Env} {w0 w : World} {L L' : Loc} {s s' : St} {m : Fm} {v : V} {a : Act} {N : Nat}
/-! what may not be laid is of no import to values -/
mutual
theorem RV.env (hu : ρ.un = ρ'.un) : ∀ {v : V} {x : Value}, RV ρ L v x → RV ρ' L v x
  | _, _, .bool b => .bool b
  | _, _, .int k n => .int k n
  | _, _, .str s => .str s
  | _, _, .ptr0 => .ptr0
  | _, _, .ptr h => .ptr h
  | _, _, .sl0 => .sl0
  | _, _, .sl h h1 => .sl h h1
  | _, _, .sg h h1 h2 => .sg h h1 h2
  | _, _, .mp0 => .mp0
  | _, _, .mp h => .mp h
  | _, _, .ch0 => .ch0
  | _, _, .ch h => .ch h
  | _, _, .fn h k => .fn (RVs.env hu h) (RVs.env hu k)
  | _, _, .nilF => .nilF
  | _, _, .ifc h => .ifc (RV.env hu h)
  | _, _, .nilI => .nilI
  | _, _, .agg h => .agg (RVs.env hu h)
  | _, _, .tup h => .tup (RVs.env hu h)
  | _, _, .un n => by
    have : ρ.un n = ρ'.un n := by rw [hu]
    show RV ρ' L (.un n) (ρ.un n)
    rw [this]
    exact .un n
theorem RVs.env (hu : ρ.un = ρ'.un) : ∀ {l : List V} {x : List Value}, RVs ρ L l x → RVs ρ' L l x
  | _, _, .nil => .nil
  | _, _, .cons h k => .cons (RV.env hu h) (RVs.env hu k)
end
theorem RMs.env (hu : ρ.un = ρ'.un) : ∀ {l : List Me} {x : List MapEntry}, RMs ρ L l x → RMs ρ' L l x
  | _, _, .nil => .nil
  | _, _, .cons h k e r => .cons (h.env hu) (k.env hu) e (RMs.env hu r)
theorem RO.env (hu : ρ.un = ρ'.un) {B0 b : Nat} {o : Ob} (h : RO ρ L B0 w b o) : RO ρ' L B0 w b o := by
  cases o with
  | row t n g z c =>
    intro B base sz e
    obtain ⟨h1, h0, C, fz, h2, h3, h4, h5, h6, h7⟩ := h B base sz e
    exact ⟨h1, h0, C, fz, h2, h3, h4, h5, h6, fun i v hi hv => let ⟨x, a1, a2⟩ := h7 i v hi hv; ⟨x, a1, a2.env hu⟩⟩
  | map l c =>
    intro B base sz e
    obtain ⟨h1, h0, es, h2, h3⟩ := h B base sz e
    exact ⟨h1, h0, es, h2, h3.env hu⟩
  | it m since seen last => exact h
  | si l p => exact h
  | chan cap l sh x y =>
    intro B base sz e
    obtain ⟨h1, h0, m', h2, h3⟩ := h B base sz e
    exact ⟨h1, h0, m', h2, h3.env hu⟩
/-- Another set of things that may not be laid. -/
theorem Rel.env (hu : ρ.un = ρ'.un) (h : Rel ρ w0 L s w) (hr : ∀ b, ρ'.res b → b < s.nx ∧ ∀ g, L b g = none) : Rel ρ' w0 L s w :=
  ⟨h.below, h.fresh, h.top, hr, fun b o hb => (h.obj b o hb).env hu, h.inj⟩
theorem Ctx.env (hu : ρ.un = ρ'.un) (hc : Ctx P T ρ w0) : Ctx P T ρ' w0 :=
  ⟨hc.ty, hc.fn, fun b o v e => let ⟨h1, x, h2, h3⟩ := hc.gl b o v e; ⟨h1, x, h2, fun L => (h3 L).env hu⟩, fun n => by
    have := hc.un n
    show (ρ'.un n).oneCell' = true
    rw [← hu]
    exact this, hc.hd, hc.mixed⟩
variable {nat : FuncId → List V → St → Option (Oc Rr)} {dnat : FuncId → List V → St → Option St}
/-- Code, and calls, of so many levels: whatever may not be laid meanwhile. -/
theorem both_all (hc : Ctx P T ρ w0) (hf : FnsOk T) (hn : ∀ ρ' : Env, ρ.un = ρ'.un → SpecN P ρ' w0 nat) (hdn : ∀ ρ' : Env, ρ.un = ρ'.un → SpecDn P ρ' w0 dnat) (hdr : ∀ cal, (∀ ρ' : Env, ρ.un = ρ'.un → SpecF P ρ' w0 cal) → ∀ ρ' : Env, ρ.un = ρ'.un → SpecD P T ρ' w0 cal) :
    ∀ (n : Nat) (ρ' : Env), ρ.un = ρ'.un → SpecC P ρ' w0 (both T nat dnat n).e ∧ SpecF P ρ' w0 (both T nat dnat n).c
  | 0, ρ', _ => ⟨fun c s m L N a w Q _ _ _ e => e.elim, fun f l s L xs w K _ _ e => e.elim⟩
  | n + 1, ρ', hu => by
    have ih := both_all hc hf hn hdn hdr n
    obtain ⟨ih1, ih2⟩ := ih ρ' hu
    have hc' := hc.env hu
    refine ⟨exS_spec hc' ih2 (hdr _ (fun ρ'' h => (ih ρ'' h).2) ρ' hu) ih1, fun f l s L xs w K h hl e => ?_⟩
    replace e : (on (nat f l s) (callS T dnat (both T nat dnat n).e f l s) id).all _ := e
    cases hnat : nat f l s with
    | none =>
      rw [hnat] at e
      exact callB_spec hc' hf ih1 (hdn ρ' hu) h hl e
    | some o =>
      rw [hnat] at e
      exact hn ρ' hu f l s o L xs w K h hl hnat e
end
end Go.RI
