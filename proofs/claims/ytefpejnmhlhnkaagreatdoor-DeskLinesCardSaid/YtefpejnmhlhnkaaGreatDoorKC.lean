/-
  Memory in a walk: new blocks, boxed values, fields, stores. No condition but what each names.
-/
import Derived.Test.YtefpejnmhlhnkaaGreatDoorKB
import Derived.Great.BuildSlice
import Derived.Laws.MakeOwn
set_option linter.unusedSectionVars false
namespace Go.RowKit
theorem Below.step {w0 w w' : World} (h : Below w0.heap.size w0 w) (hb : Below w.heap.size w w') : Below w0.heap.size w0 w' := h.trans (hb.mono h.size)
end Go.RowKit
namespace Go.Proofs.YtefpejnmhlhnkaaGreatDoor
open Go.RowKit

def sizePos (P : Program) (t : TypeId) : Bool := match P.info? t with | some i => Nat.ble 1 i.size | none => false
def sizeIs (P : Program) (t : TypeId) (n : Nat) : Bool := match P.info? t with | some i => Nat.beq i.size n | none => false
theorem sizeIs_spec {P : Program} {t : TypeId} {n : Nat} (h : sizeIs P t n = true) : ∃ i, P.info? t = some i ∧ i.size = n := by
  unfold sizeIs at h
  cases hi : P.info? t with
  | none => rw [hi] at h; cases h
  | some i => rw [hi] at h; exact ⟨i, rfl, Nat.eq_of_beq_eq_true h⟩
def offAt (fields : Array Field) (i : Nat) : Option (TypeId × Nat) := (fields[i]?).map fun f => (f.type, f.offset)
theorem run_fieldAt {P : Program} {T i k t : Nat} {fields : Array Field} (hT : P.underlying T = some (.struct fields)) (hf : offAt fields i = some (t, k)) (hs : sizePos P t = true) (ad : Addr) (w : World) :
    (Instr.fieldAt T (.pointer (some ad)) i).run P w = .ok (.pointer (some (ad.add k))) w := by
  unfold offAt at hf
  cases hfi : fields[i]? with
  | none => rw [hfi] at hf; cases hf
  | some f =>
    rw [hfi] at hf
    obtain ⟨rfl, rfl⟩ : f.type = t ∧ f.offset = k := by injection hf with h; injection h with h1 h2; exact ⟨h1, h2⟩
    obtain ⟨inf, hi, hsz⟩ : ∃ inf, P.info? f.type = some inf ∧ 1 ≤ inf.size := by
      unfold sizePos at hs
      cases h : P.info? f.type with
      | none => rw [h] at hs; cases hs
      | some inf => rw [h] at hs; exact ⟨inf, rfl, Nat.le_of_ble_eq_true hs⟩
    simp [Instr.fieldAt, run_underlying hT, hfi, Instr.sureAddr, fieldPlace, sizeOf, typeInfo, hi, show ¬ inf.size = 0 by omega]

section
variable {P : Program} {ops : Array Oper} {Q : Exit → Act → World → Prop} {rest : List Oper} {E : Operand → Option Value} {o : Oper} {n d : Nat} {F F' : List (Nat × Value)} {w w' : World} {v : Value} {x y : Operand} {T T' : TypeId}
variable [Inhabited (List Deferred)]

theorem Runs.fieldA {i t : Nat} (k : Nat) {fields : Array Field} {ad : Addr} (ho : o.op = .fieldAddr T x i) (hx : E x = some (.pointer (some ad))) (hT : P.underlying T = some (.struct fields)) (hf : offAt fields i = some (t, k)) (hs : sizePos P t = true) :
    Runs P E o w (.pointer (some (ad.add k))) w := .fieldAddr ho hx (run_fieldAt hT hf hs ad w)
/-- The same at the head of a block. -/
theorem Runs.fieldB {i t g : Nat} (k : Nat) {fields : Array Field} (ho : o.op = .fieldAddr T x i) (hx : E x = some (.pointer (some ⟨g, 0, none⟩))) (hT : P.underlying T = some (.struct fields)) (hf : offAt fields i = some (t, k)) (hs : sizePos P t = true) :
    Runs P E o w (.pointer (some ⟨g, k, none⟩)) w := by
  have h := Runs.fieldA (w := w) k ho hx hT hf hs
  have e : (⟨g, 0, none⟩ : Addr).add k = ⟨g, k, none⟩ := by unfold Addr.add; split <;> simp_all
  rwa [e] at h
/-- A cell of a block that is known whole. -/
theorem Runs.loadB {g i : Nat} {cs : Array Value} {t : TypeId} {d : TypeDesc} (ho : o.op = .load T x) (hx : E x = some (.pointer (some ⟨g, i, none⟩))) (hT : P.underlying T = some d) (hd : (match d with | .struct _ | .array _ _ => true | _ => false) = false) (hb : Blk w g t cs) (hi : cs[i]? = some v) : Runs P E o w v w :=
  .load1 ho hx hT hd ((hb.cell i).trans hi)
/-- The whole of a block. -/
theorem Runs.loadW {g : Nat} {cs : Array Value} {t : TypeId} {d : TypeDesc} (ho : o.op = .load T x) (hx : E x = some (.pointer (some ⟨g, 0, none⟩))) (hT : P.underlying T = some d) (hd : (match d with | .struct _ | .array _ _ => true | _ => false) = true) (hb : Blk w g t cs) {m : Nat} (hs : sizeIs P T m = true) (hm : cs.size = m) : Runs P E o w (.agg cs) w := by
  obtain ⟨i, hi, hsz⟩ := sizeIs_spec hs
  exact .loadN (cs := cs.toList) ho hx hT hd hi (by simpa [hm] using hsz) (fun j v hj => by
    have hadd : (⟨g, 0, none⟩ : Addr).add j = ⟨g, j, none⟩ := by unfold Addr.add; split <;> simp_all
    rw [hadd, hb.cell j]
    simpa using hj)

theorem World.new_block (w : World) (cs : Array Value) (T : TypeId) : Blk (w.alloc (.cells cs T)) w.heap.size T cs ∧ Below w.heap.size w (w.alloc (.cells cs T)) ∧ w.heap.size < (w.alloc (.cells cs T)).heap.size :=
  ⟨Blk.new w T cs, (Below.refl _ _).alloc (Nat.le_refl _) _, by simp⟩
/-- A new block: what is said of it. -/
structure New (w w' : World) (g : Nat) (T : TypeId) (cs : Array Value) : Prop where
  ge : w.heap.size ≤ g
  blk : Blk w' g T cs
  below : Below w.heap.size w w'
theorem New.lt {g : Nat} {cs : Array Value} (h : New w w' g T cs) : g < w'.heap.size := h.blk.lt
theorem new_of (w : World) (cs : Array Value) (T : TypeId) : New w (w.alloc (.cells cs T)) w.heap.size T cs := ⟨Nat.le_refl _, Blk.new w T cs, (Below.refl _ _).alloc (Nat.le_refl _) _⟩

def zeroIs (P : Program) (t : TypeId) : Option (Option Value) := (P.info? t).map (·.zero)
theorem run_zero {t : TypeId} {z : Value} (h : zeroIs P t = some (some z)) (w : World) : (zeroValue t).run P w = .ok z w := by
  unfold zeroIs at h
  cases hi : P.info? t with
  | none => rw [hi] at h; cases h
  | some i =>
    rw [hi] at h
    have hz : i.zero = some z := by injection h
    simp [zeroValue, typeInfo, hi, hz]
theorem Seq.alloc {z : Value} (ho : o.op = .alloc T) (hz : ∀ w, (zeroValue T).run P w = .ok z w) (hg : o.guard = none) (hd : o.dst = some d) (hn : Nat.blt d n = true)
    (h : ∀ g w', New w w' g T z.cells → Seq P ops Q rest n ((d, .pointer (some ⟨g, 0, none⟩)) :: F) w') : Seq P ops Q (o :: rest) n F w :=
  Seq.val (Runs.alloc_ ho hz) hg hd hn (h _ _ (new_of w _ T))
theorem Seq.box (ho : o.op = .box T x) (hx : evF F x = some v) (hg : o.guard = none) (hd : o.dst = some d) (hn : Nat.blt d n = true)
    (h : ∀ g w', New w w' g T v.cells → Seq P ops Q rest n ((d, .pointer (some ⟨g, 0, none⟩)) :: F) w') : Seq P ops Q (o :: rest) n F w :=
  Seq.val (Runs.box_ ho hx) hg hd hn (h _ _ (new_of w _ T))
theorem Seq.buildSlice {ps : Array (Nat × Operand)} {m e : Nat} {vs : List (Nat × Value)} {cs : Array Value} (ho : o.op = .buildSlice T m ps) (hx : evP (evF F) ps.toList = some vs) (hb : ∀ w, (Instr.buildSlice T m vs.toArray).run P w = .ok (.slice (some ⟨w.heap.size, 0, none⟩) m m) (w.alloc (.cells cs e)))
    (hg : o.guard = none) (hd : o.dst = some d) (hn : Nat.blt d n = true)
    (h : ∀ g w', New w w' g e cs → Seq P ops Q rest n ((d, .slice (some ⟨g, 0, none⟩) m m) :: F) w') : Seq P ops Q (o :: rest) n F w :=
  Seq.val (Runs.buildSlice ho hx (hb w)) hg hd hn (h _ _ (new_of w _ e))

/-- A slice literal, every place written in its order. -/
def enumF : Nat → List Value → List (Nat × Value)
  | _, [] => []
  | k, v :: r => (k, v) :: enumF (k + 1) r
theorem enumF_zip (vs : List Value) : ∀ k, enumF k vs = (vs.zipIdx k).map fun x => (x.2, x.1) := by
  induction vs with
  | nil => intro k; rfl
  | cons v r ih => intro k; simp [enumF, ih]
def flatC : List Value → List Value
  | [] => []
  | v :: r => v.cells.toList ++ flatC r
theorem flatC_eq (vs : List Value) : vs.flatMap (fun v => v.cells.toList) = flatC vs := by
  induction vs with
  | nil => rfl
  | cons v r ih => rw [List.flatMap_cons, ih]; rfl
def sizes (s : Nat) : List Value → Prop
  | [] => True
  | v :: r => v.cells.size = s ∧ sizes s r
theorem sizes_spec {s : Nat} : ∀ {l : List Value}, sizes s l → ∀ v ∈ l, v.cells.size = s
  | [], _, _, h => by cases h
  | v :: r, h, u, hu => by
    rcases List.mem_cons.1 hu with rfl | hu
    · exact h.1
    · exact sizes_spec h.2 u hu
theorem length_flatC {s : Nat} : ∀ {l : List Value}, sizes s l → (flatC l).length = l.length * s
  | [], _ => by simp [flatC]
  | v :: r, h => by simp [flatC, length_flatC h.2, h.1, Nat.add_mul]; omega
theorem Seq.slice {ps : Array (Nat × Operand)} {m e s : Nat} {vs : List Value} {z : Value} (ho : o.op = .buildSlice T m ps) (hx : evP (evF F) ps.toList = some (enumF 0 vs)) (hm : vs.length = m) (hT : P.underlying T = some (.slice e)) (hs : sizeIs P e s = true) (hz : zeroIs P e = some (some z)) (hs0 : 0 < s) (hsm : m * s ≤ 16777216) (hvs : sizes s vs)
    (hg : o.guard = none) (hd : o.dst = some d) (hn : Nat.blt d n = true)
    (h : ∀ g w', New w w' g e (flatC vs).toArray → Seq P ops Q rest n ((d, .slice (some ⟨g, 0, none⟩) m m) :: F) w') : Seq P ops Q (o :: rest) n F w := by
  obtain ⟨i, hi, hsz⟩ := sizeIs_spec hs
  have hz' : i.zero = some z := by unfold zeroIs at hz; rw [hi] at hz; injection hz
  subst hm
  rcases Nat.eq_zero_or_pos vs.length with h0 | h0
  · have : vs = [] := List.eq_nil_of_length_eq_zero h0
    subst this
    refine Seq.buildSlice (e := e) (cs := #[]) ho hx ?_ hg hd hn h
    intro w
    simp [Instr.buildSlice, run_underlying hT, sizeOf, typeInfo, hi, enumF, Instr.fill, newRow]
    have : Array.map (fun (_ : Nat) => (default : Value)) (Array.range 0) = #[] := Array.eq_empty_of_size_eq_zero (by simp)
    rw [this]
  · refine Seq.buildSlice (e := e) (cs := (flatC vs).toArray) ho hx (fun w => run_buildSlice w T e vs.length _ _ i z hT hi hz' (by rw [hsz]; omega) (by rw [hsz]; exact Nat.ne_of_gt (Nat.mul_pos h0 hs0)) ?_) hg hd hn h
    rw [hsz, enumF_zip, ← flatC_eq]
    exact Great.fill_whole hs0 vs _ (sizes_spec hvs) (by simp)

theorem madeCells_one (z : Value) (n : Nat) : madeCells #[z] n = (List.replicate n z).toArray := by
  apply Array.ext_getElem?
  intro i
  unfold madeCells
  rcases Nat.lt_or_ge i n with h | h
  · simp [h, List.getElem?_replicate, Nat.mod_one]
  · simp [Array.getElem?_eq_none, h]
/-- make([]T, n), T of one cell. -/
theorem Seq.make {k k' : IntKind} {c : Int} {m e b : Nat} {z : Value} (ho : o.op = .makeSlice T x y) (hx : evF F x = some (.int k c)) (hy : evF F y = some (.int k' c)) (hT : P.underlying T = some (.slice e)) (hs : sizeIs P e 1 = true) (hz : zeroIs P e = some (some z)) (hz1 : z.cells = #[z]) (hby : (P.info? e).map (·.bytes) = some b) (hc : c = (m : Int)) (hm : b * m ≤ 281474976710656) (h63 : m ≤ 9223372036854775807)
    (hg : o.guard = none) (hd : o.dst = some d) (hn : Nat.blt d n = true)
    (h : ∀ g w', New w w' g e (List.replicate m z).toArray → Seq P ops Q rest n ((d, .slice (some ⟨g, 0, none⟩) m m) :: F) w') : Seq P ops Q (o :: rest) n F w := by
  obtain ⟨i, hi, hsz⟩ := sizeIs_spec hs
  have hz' : i.zero = some z := by unfold zeroIs at hz; rw [hi] at hz; injection hz
  have hb' : i.bytes = b := by rw [hi] at hby; injection hby
  subst hc
  refine Seq.val (v := .slice (some ⟨w.heap.size, 0, none⟩) m m) (w' := w.alloc (.cells (List.replicate m z).toArray e)) (fun ρ h => ?_) hg hd hn (h _ _ (new_of w _ e))
  have hr := run_make (P := P) w T e i z hT hi hz' k k' m m (by omega) (Int.le_refl _) (by rw [hb', ← Int.natCast_mul]; omega) (by omega)
  rw [Int.toNat_natCast, hsz, hz1, Nat.mul_one, madeCells_one] at hr
  unfold execOp; simp only [ho]; rw [h _ _ hx, h _ _ hy]
  simp only [Sem.run_bind, hr, Result.andThen_ok]; rfl
/-- An element's place in a slice at the head of a block; T of one cell. -/
theorem Runs.indexB {k : IntKind} {g j m c e : Nat} {p : Int} (ho : o.op = .indexAddr T x y) (hx : E x = some (.slice (some ⟨g, 0, none⟩) m c)) (hy : E y = some (.int k p)) (hT : P.underlying T = some (.slice e)) (hs : sizeIs P e 1 = true) (hp : p = (j : Int)) (hlt : j < m) : Runs P E o w (.pointer (some ⟨g, j, none⟩)) w := by
  obtain ⟨i, hi, hsz⟩ := sizeIs_spec hs
  have h := Runs.indexAddr (w := w) ho hx hy hT hi hp hlt
  rw [hsz, Nat.mul_one] at h
  have e : (⟨g, 0, none⟩ : Addr).add j = ⟨g, j, none⟩ := by unfold Addr.add; split <;> simp_all
  rwa [e] at h
theorem Runs.indexN {k : IntKind} {ad : Addr} {j m c e s : Nat} {p : Int} (ho : o.op = .indexAddr T x y) (hx : E x = some (.slice (some ad) m c)) (hy : E y = some (.int k p)) (hT : P.underlying T = some (.slice e)) (hs : sizeIs P e s = true) (hp : p = (j : Int)) (hlt : j < m) : Runs P E o w (.pointer (some (ad.add (j * s)))) w := by
  obtain ⟨i, hi, hsz⟩ := sizeIs_spec hs
  have h := Runs.indexAddr (w := w) ho hx hy hT hi hp hlt
  rwa [hsz] at h
theorem Runs.index1 {k : IntKind} {ad : Addr} {j m c e : Nat} {p : Int} (ho : o.op = .indexAddr T x y) (hx : E x = some (.slice (some ad) m c)) (hy : E y = some (.int k p)) (hT : P.underlying T = some (.slice e)) (hs : sizeIs P e 1 = true) (hp : p = (j : Int)) (hlt : j < m) : Runs P E o w (.pointer (some (ad.add j))) w := by
  have h := Runs.indexN (w := w) ho hx hy hT hs hp hlt
  rwa [Nat.mul_one] at h
theorem cell_grow {w w' : World} {a : Addr} {v : Value} (hc : w.cell? a = some v) (hG : Below w.heap.size w w') : w'.cell? a = some v := (hG.cell (World.block_lt_of_cell? w a hc)).trans hc

/-- A store into one cell of a block of the call's own. -/
structure Put (w w' : World) (g : Nat) (T : TypeId) (cs : Array Value) : Prop where
  blk : Blk w' g T cs
  grown : w.grownBy w' (some g)
  size : w'.heap.size = w.heap.size
theorem put_of {g i : Nat} {t : TypeId} {cs : Array Value} (hb : Blk w g t cs) (v : Value) : Put w (w.setCell ⟨g, i, none⟩ v) g t (cs.setIfInBounds i v) :=
  ⟨hb.set_ i v, ⟨rfl, rfl, rfl, by simp [World.setCell], fun k hk hne => Below.heap_setCell w _ v k (fun e => hne (by rw [e]))⟩, by simp [World.setCell]⟩
theorem Put.below {g B : Nat} {cs : Array Value} (h : Put w w' g T cs) (hB : B ≤ g) (hg : g < w.heap.size) : Below B w w' := only_to_below h.grown hB hg
theorem Put.below_of {g B : Nat} {cs : Array Value} {w0 : World} (h : Put w w' g T cs) (hb : Below B w0 w) (hB : B ≤ g) (hg : g < w.heap.size) : Below B w0 w' := hb.trans (h.below hB hg)
theorem Seq.store1 {g i : Nat} {t : TypeId} {cs : Array Value} {u : Value} (ho : o.op = .store T x y) (hx : evF F x = some (.pointer (some ⟨g, i, none⟩))) (hy : evF F y = some v) (hs : sizeIs P T 1 = true) (h1 : v.cells = #[v]) (ho1 : v.oneCell' = true) (hb : Blk w g t cs) (hc : cs[i]? = some u)
    (hg : o.guard = none) (hd : o.dst = none) (h : ∀ w', Put w w' g t (cs.setIfInBounds i v) → Seq P ops Q rest n F w') : Seq P ops Q (o :: rest) n F w := by
  obtain ⟨inf, hi, hsz⟩ := sizeIs_spec hs
  exact Seq.unit (RunsU.store1 ho hx hy hi hsz h1 ho1 ((hb.cell i).trans hc) (hb.frozen i)) hg hd (h _ (put_of hb v))
def ones : List Value → Prop
  | [] => True
  | v :: r => v.oneCell' = true ∧ ones r
theorem ones_spec : ∀ {l : List Value}, ones l → ∀ u ∈ l, u.oneCell' = true
  | [], _, _, h => by cases h
  | v :: r, h, u, hu => by
    rcases List.mem_cons.1 hu with rfl | hu
    · exact h.1
    · exact ones_spec h.2 u hu
/-- A store of a whole struct into a block of the call's own. -/
theorem Seq.storeN {g off m : Nat} {t : TypeId} {cs cur : Array Value} (ho : o.op = .store T x y) (hx : evF F x = some (.pointer (some ⟨g, off, none⟩))) (hy : evF F y = some v) (hcs : v.cells = cs) (hs : sizeIs P T m = true) (hm : cs.size = m) (h1 : ones cs.toList) (hb : Blk w g t cur) (hfit : off + cs.size ≤ cur.size)
    (hg : o.guard = none) (hd : o.dst = none) (h : ∀ w', Put w w' g t (cur.toList.take off ++ (cs.toList ++ cur.toList.drop (off + cs.size))).toArray → Seq P ops Q rest n F w') : Seq P ops Q (o :: rest) n F w := by
  intro a ha
  obtain ⟨inf, hi, hsz⟩ := sizeIs_spec hs
  refine wpList_store_row hg T x y ho hd g off (ha.ev _ _ hx) cs (by rw [ha.ev _ _ hy, hcs]) inf hi (hsz.trans hm.symm) (ones_spec h1) t cur hb hfit fun w' h1 h2 h3 => h w' ⟨h1, h2, h3⟩ a ha
end
section
variable {P : Program} {ops : Array Oper} {Q : Exit → Act → World → Prop} {rest : List Oper} {E : Operand → Option Value} {o : Oper} {n d : Nat} {F F' : List (Nat × Value)} {w w' : World} {v : Value} {x y : Operand} {T T' : TypeId}
/-- A result that lies in a block. -/
theorem Post.endC {fn : Func} {R : Ending → World → Prop} {e : Exit} {p g : Nat} {ty t : TypeId} {cs : Array Value} {dsc : TypeDesc} (hr : fn.results = #[.cell p ty]) (hl : look F p = some (.pointer (some ⟨g, 0, none⟩))) (hb : Blk w g t cs) (hu : P.underlying ty = some dsc)
    (hd : (match dsc with | .struct _ | .array _ _ => true | _ => false) = true) {m : Nat} (hs : sizeIs P ty m = true) (hm : cs.size = m) (he : e = .ret ∨ e = .normal) (h : R (.returned (.agg cs)) w) : Post (bodyPost P fn R) e n F w :=
  Post.end_ (fun a ha => results_cell_row hr _ _ g t cs (0, 0) dsc (by simp [ha.slot p _ hl]) hb hu hd (by obtain ⟨inf, hi, hsz⟩ := sizeIs_spec hs; rw [hi, hm, ← hsz]; rfl)) he h
theorem Post.endC2 {fn : Func} {R : Ending → World → Prop} {e : Exit} {p q g : Nat} {ty t : TypeId} {cs : Array Value} {dsc : TypeDesc} (hr : fn.results = #[.cell p ty, .tmp q]) (hl : look F p = some (.pointer (some ⟨g, 0, none⟩))) (hq : look F q = some v) (hb : Blk w g t cs) (hu : P.underlying ty = some dsc)
    (hd : (match dsc with | .struct _ | .array _ _ => true | _ => false) = true) {m : Nat} (hs : sizeIs P ty m = true) (hm : cs.size = m) (he : e = .ret ∨ e = .normal) (h : R (.returned (.tuple #[.agg cs, v])) w) : Post (bodyPost P fn R) e n F w :=
  Post.end_ (fun a ha => by
    have hp' : a.tmps[p]?.getD undef = .pointer (some ⟨g, 0, none⟩) := by simp [ha.slot p _ hl]
    have e := run_loadVar_row (P := P) w g t ty cs (0, 0) dsc hb hu (by cases dsc <;> first | rfl | (simp at hd)) (by obtain ⟨inf, hi, hsz⟩ := sizeIs_spec hs; rw [hi, hm, ← hsz]; rfl)
    simp [results, hr, hp', asAddr, e, ha.slot q _ hq]) he h
end

/-- A cell of what came in. -/
structure Cell (w : World) (B : Nat) (a : Addr) (v : Value) : Prop where
  lt : a.block < B
  val : w.cell? a = some v
theorem Cell.step {w w' : World} {B : Nat} {a : Addr} {v : Value} (h : Cell w B a v) (hb : Below w.heap.size w w') : Cell w' B a v := ⟨h.lt, cell_grow h.val hb⟩
theorem Cell.put {w w' : World} {B g : Nat} {a : Addr} {v : Value} {T : TypeId} {cur cs : Array Value} (h : Cell w B a v) (_k : Blk w g T cur) (p : Put w w' g T cs) (e : B ≤ g) : Cell w' B a v :=
  ⟨h.lt, (World.cell?_of_block (p.grown.block a.block (World.block_lt_of_cell? w a h.val) (fun he => by injection he with he; have := h.lt; omega))).trans h.val⟩
/-! What was known stays known. -/
end Go.Proofs.YtefpejnmhlhnkaaGreatDoor
namespace Go.RowKit
open Go.Proofs.YtefpejnmhlhnkaaGreatDoor
theorem Below.put {w0 w w' : World} {g : Nat} {T : TypeId} {cur cs : Array Value} (h : Below w0.heap.size w0 w) (k : Blk w g T cur) (p : Put w w' g T cs) (e : w0.heap.size ≤ g) : Below w0.heap.size w0 w' := p.below_of h e k.lt
end Go.RowKit
namespace Go.Proofs.YtefpejnmhlhnkaaGreatDoor
open Go.RowKit
theorem Reads.put {w w' : World} {B size n g : Nat} {A : Option Addr} {xs : List Value} {T : TypeId} {cur cs : Array Value} (h : Reads w B size A n xs) (_k : Blk w g T cur) (p : Put w w' g T cs) (e : B ≤ g) : Reads w' B size A n xs := h.keep fun q hq => World.cell?_of_block (p.grown.block q.block (by have := _k.lt; omega) (fun he => by injection he with he; omega))
theorem Reads.new {w w' : World} {B size n g : Nat} {A : Option Addr} {xs : List Value} {T : TypeId} {cs : Array Value} (h : Reads w B size A n xs) (hB : B ≤ w.heap.size) (hn : New w w' g T cs) : Reads w' B size A n xs := h.below (hn.below.mono hB)
theorem Blk.new' {w w' : World} {g g' : Nat} {T T' : TypeId} {cs cs' : Array Value} (h : Blk w g T cs) (hn : New w w' g' T' cs') : Blk w' g T cs := h.below hn.below h.lt
theorem Blk.step {w w' : World} {g : Nat} {T : TypeId} {cs : Array Value} (h : Blk w g T cs) (hb : Below w.heap.size w w') : Blk w' g T cs := h.below hb h.lt
theorem Blk.put {w w' : World} {g g' : Nat} {T T' : TypeId} {cs cs' : Array Value} (h : Blk w g T cs) (hp : Put w w' g' T' cs') (hne : g ≠ g') : Blk w' g T cs := h.grown hp.grown (fun e => hne (by injection e))
end Go.Proofs.YtefpejnmhlhnkaaGreatDoor
